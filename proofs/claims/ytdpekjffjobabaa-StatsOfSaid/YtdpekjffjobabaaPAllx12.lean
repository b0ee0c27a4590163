/- The Go functions that the laws reach, as Lean functions, and that each call comes to what its function says. Written by a program of this session (a turned copy of the kit's print). No condition beyond those that each theorem states. -/
import Derived.Test.YtdpekjffjobabaaPAllx0
import Derived.Test.YtdpekjffjobabaaPAllx4
import Derived.Test.YtdpekjffjobabaaPAllx5
import Derived.Test.YtdpekjffjobabaaPAllx8
import Derived.Test.YtdpekjffjobabaaPAllx11
namespace Go.Proofs.Ytdpekjffjobabaa.PAll
open Go.RowKit Go.Proofs.YtdpekjffjobabaaW.PrintWords Go.Proofs.YtdpekjffjobabaaW.PrintLast Go.Proofs.YtdpekjffjobabaaW.PrintMore
attribute [local go_sem] max2_int min2_int max_two min_two max_three min_three max_four min_four   -- for this text's walks alone
set_option linter.unusedVariables false
set_option linter.unusedSimpArgs false

/-! ### offertorylaw13_StatsOf: function 3 -/
def offertorylaw13_StatsOf.j0 : Nat → List Int → Int → Int → Int → List Int → Option (Bool)
  | 0, _, _, _, _, _ => none
  | k + 1, x1, x309000, x309001, x309002, x309003 => (stats_Of.f k x309000 x309001 x309002 x309003 x1).bind fun bt314 => ((offertoryref09_Sound.f k x309000 x309001 x309002 x309003).bind fun t325 => (if t325 = 0 then ((offertorylaw13_awake.f k).bind fun t326 => (if t326 = true then (if bt314.2.2.2.2.2.2.2 = 0 then ((offertoryref09_Stats.f k x309000 x309001 x309002 x309003 x1).bind fun bt327 => ((offertoryref09_Same.f k bt314.1 bt314.2.1 bt314.2.2.1 bt314.2.2.2.1 bt314.2.2.2.2.1 bt314.2.2.2.2.2.1 bt314.2.2.2.2.2.2.1 bt327.1 bt327.2.1 bt327.2.2.1 bt327.2.2.2.1 bt327.2.2.2.2.1 bt327.2.2.2.2.2.1 bt327.2.2.2.2.2.2).bind fun t336 => (some t336))) else (none)) else (none))) else ((offertorylaw13_awake.f k).bind fun t337 => (if t337 = true then (if bt314.2.2.2.2.2.2.2 = t325 then ((offertoryref09_Same.f k bt314.1 bt314.2.1 bt314.2.2.1 bt314.2.2.2.1 bt314.2.2.2.2.1 bt314.2.2.2.2.2.1 bt314.2.2.2.2.2.2.1 ([] : List Int) 0 0 0 0 0 false).bind fun t338 => (some t338)) else (none)) else (none)))))
def offertorylaw13_StatsOf.f (k : Nat) (a0_0 : Int) (a0_1 : Int) (a0_2 : Int) (l0_3 : List Int) (l1 : List Int) : Option (Bool) := if (l1.length : Int) > 300 then (if 300 ≤ (l1.length : Int) then (offertorylaw13_StatsOf.j0 k (l1.take 300) a0_0 a0_1 a0_2 l0_3) else (none)) else (offertorylaw13_StatsOf.j0 k l1 a0_0 a0_1 a0_2 l0_3)
theorem offertorylaw13_StatsOf.mono_l : ∀ k, (∀ y0 y1 y2 y3 y4, LeO (offertorylaw13_StatsOf.j0 k y0 y1 y2 y3 y4) (offertorylaw13_StatsOf.j0 (k + 1) y0 y1 y2 y3 y4))
  | 0 => fun _ _ _ _ _ r h => by simp [offertorylaw13_StatsOf.j0] at h
  | k + 1 => by
    have ih0 := offertorylaw13_StatsOf.mono_l k
    · intro y0 y1 y2 y3 y4
      unfold offertorylaw13_StatsOf.j0
      repeat' first
      | (with_reducible exact ih0 _ _ _ _ _)
      | (with_reducible exact offertorylaw13_awake.mono _)
      | (with_reducible exact offertoryref09_Same.mono _ _ _ _ _ _ _ _ _ _ _ _ _ _ _)
      | (with_reducible exact offertoryref09_Sound.mono _ _ _ _ _)
      | (with_reducible exact offertoryref09_Stats.mono _ _ _ _ _ _)
      | (with_reducible exact stats_Of.mono _ _ _ _ _ _)
      | (with_reducible exact LeO.refl _)
      | (with_reducible exact LeO.none _)
      | (with_reducible refine LeO.ite ?_ ?_)
      | (with_reducible refine LeO.bind ?_ (fun _ => ?_))
      | exact ih0 _ _ _ _ _
      | exact offertorylaw13_awake.mono _
      | exact offertoryref09_Same.mono _ _ _ _ _ _ _ _ _ _ _ _ _ _ _
      | exact offertoryref09_Sound.mono _ _ _ _ _
      | exact offertoryref09_Stats.mono _ _ _ _ _ _
      | exact stats_Of.mono _ _ _ _ _ _
      | exact LeO.none _
      | refine LeO.ite ?_ ?_
      | refine LeO.bind ?_ (fun _ => ?_)
theorem offertorylaw13_StatsOf.mono : ∀ a0 a1 a2 a3 a4 k, LeO (offertorylaw13_StatsOf.f k a0 a1 a2 a3 a4) (offertorylaw13_StatsOf.f (k + 1) a0 a1 a2 a3 a4) := by
  intro a0 a1 a2 a3 a4 k
  have ih0 := offertorylaw13_StatsOf.mono_l k
  unfold offertorylaw13_StatsOf.f
  repeat' first
      | (with_reducible exact ih0 _ _ _ _ _)
      | (with_reducible exact offertorylaw13_awake.mono _)
      | (with_reducible exact offertoryref09_Same.mono _ _ _ _ _ _ _ _ _ _ _ _ _ _ _)
      | (with_reducible exact offertoryref09_Sound.mono _ _ _ _ _)
      | (with_reducible exact offertoryref09_Stats.mono _ _ _ _ _ _)
      | (with_reducible exact stats_Of.mono _ _ _ _ _ _)
      | (with_reducible exact LeO.refl _)
      | (with_reducible exact LeO.none _)
      | (with_reducible refine LeO.ite ?_ ?_)
      | (with_reducible refine LeO.bind ?_ (fun _ => ?_))
      | exact ih0 _ _ _ _ _
      | exact offertorylaw13_awake.mono _
      | exact offertoryref09_Same.mono _ _ _ _ _ _ _ _ _ _ _ _ _ _ _
      | exact offertoryref09_Sound.mono _ _ _ _ _
      | exact offertoryref09_Stats.mono _ _ _ _ _ _
      | exact stats_Of.mono _ _ _ _ _ _
      | exact LeO.none _
      | refine LeO.ite ?_ ?_
      | refine LeO.bind ?_ (fun _ => ?_)
def offertorylaw13_StatsOf.T7 : Bool × List (List Nat × List Nat) := (true, [([], []), ([0, 0], [0]), ([1], [1]), ([2, 1], [1, 2]), ([1, 3], [1, 3]), ([4, 1], [4]), ([5], [5]), ([5], [5]), ([5], [5]), ([7, 8, 5, 5], [5, 7, 8]), ([6, 9, 9, 5], [5, 6, 9]), ([5, 10], [5, 10]), ([11, 10, 0, 1, 2, 3, 4, 5, 6, 7, 8, 9, 10, 11], [11])])
def offertorylaw13_StatsOf.B7 : List Nat := [0, 1, 3, 7, 15, 31, 63, 63, 63, 447, 1023, 2047, 4095]
theorem offertorylaw13_StatsOf.tab7 : rtab .any (opsOf Try.f3 7) = offertorylaw13_StatsOf.T7 := by kernel_rfl
theorem offertorylaw13_StatsOf.bits7 : waitsOk offertorylaw13_StatsOf.T7.2 offertorylaw13_StatsOf.B7 = true := by kernel_rfl
set_option maxHeartbeats 8000000 in
set_option maxRecDepth 100000 in
theorem offertorylaw13_StatsOf.calls (k : Nat) (a0_0 : Int) (a0_1 : Int) (a0_2 : Int) (A0_3 : Option Addr) (c0_3 : Nat) (l0_3 : List Int) (P1_ : Nat → Prop) (A1 : Option Addr) (c1 : Nat) (l1 : List Int) (r : Bool) (w : World) (hr0_3 : Kd.C (Kd.int .i64) w A0_3 l0_3.length l0_3) (hc0_3 : l0_3.length ≤ c0_3) (hs1 : Kd.V (Kd.int .i64) 3 w w.heap.size (fun k_ => P1_ k_) (.slice A1 l1.length c1) l1) (h : offertorylaw13_StatsOf.f k a0_0 a0_1 a0_2 l0_3 l1 = some r) :
    Calls Try.prog 3 #[.agg #[.int .i64 a0_0, .int .i64 a0_1, .int .i64 a0_2, .slice A0_3 l0_3.length c0_3], .slice A1 l1.length c1] w fun e w' => e = .returned (.bool r) ∧ Below w.heap.size w w' := by
  have hu24 := Try.underlying24
  have hu29 := Try.underlying29
  have HR0_3 := Aside0.mk hr0_3
  have HC0_3 := Aside0.mk hc0_3
  clear hr0_3 hc0_3
  have HO1 := Aside0.mk (show Kd.V (Kd.int .i64) 3 w w.heap.size (fun k_ => (P1_ k_ ∨ w.heap.size ≤ k_)) (.slice A1 l1.length c1) l1 from Kd.V_mono hs1 (fun k_ hk => .inl hk))
  have HB := Aside0.mk (Below.refl w.heap.size w)
  have H : (if (l1.length : Int) > 300 then (if 300 ≤ (l1.length : Int) then (offertorylaw13_StatsOf.j0 k (l1.take 300) a0_0 a0_1 a0_2 l0_3) else (none)) else (offertorylaw13_StatsOf.j0 k l1 a0_0 a0_1 a0_2 l0_3)) = some r := h
  clear h
  have HC3 := Aside0.mk H
  clear H
  go_enter Try.func3, Try.ntmps3
  go_upto_if 10 with (first | ((with_reducible refine gate_dst (N := 2) rfl ?_); refine box_event ?hg (N := 2) ?hd (cs := #[.int .i64 a0_0, .int .i64 a0_1, .int .i64 a0_2, .slice A0_3 l0_3.length c0_3]) (t := 24) ?hr ?_; (case hd => rfl); (case hg => rfl); (case hr => first | (go_simp; done) | (go_simp; rfl)); intro gb308 hg w4 hbox hb; have n0_ := Aside0.mk (Kd.V_below (Kd.V_elderB (by (with_reducible repeat (first | apply Kd.V_alloc | apply Kd.V_drewN | apply Kd.V_drew)); exact HO1.out) gb308 (Nat.le_of_eq hg.symm)) hb); have n1_ := Aside0.mk (below_step (by repeat (first | (with_reducible first | exact HB.out | apply below_alloc | apply pw_below_drewN | apply below_drew1) | exact HB.out)) hb); have n2_ := Aside0.mk (hbox); have n3_ := Aside0.mk ((by rw [hg]; exact (below_size (by repeat (first | (with_reducible first | exact HB.out | apply below_alloc | apply pw_below_drewN | apply below_drew1) | exact HB.out))) : w.heap.size ≤ gb308)); have n4_ := Aside0.mk ((by rw [hg]; exact (below_size (by repeat (first | (with_reducible first | exact HB.out | apply below_alloc | apply pw_below_drewN | apply below_drew1) | exact HB.out))) : w.heap.size ≤ gb308)); clear HO1; clear HB; have HO1 := n0_; have HB := n1_; have BK308 := n2_; have GW308 := n3_; have GE308 := n4_; clear n0_ n1_ n2_ n3_ n4_; clear hb hbox hg))
  (try simp only [Act.put, List.setIfInBounds_toArray, List.set_cons_zero, List.set_cons_succ])
  go_cut [1] (fun v1 wc => ∃ (kq : Nat) (x1_2 : List Int), Aside0 (offertorylaw13_StatsOf.j0 kq x1_2 a0_0 a0_1 a0_2 l0_3 = some r) ∧ Aside0 (kq ≤ k) ∧ Aside0 (Kd.V (Kd.int .i64) 3 wc w.heap.size (fun k_ => (P1_ k_ ∨ w.heap.size ≤ k_) ∧ k_ ≠ gb308) v1 x1_2) ∧ Aside0 (wc.heap[gb308]? = some (.cells #[.int .i64 a0_0, .int .i64 a0_1, .int .i64 a0_2, (.slice A0_3 l0_3.length c0_3)] 24 (0, 0))) ∧ Aside0 (Below w.heap.size w wc))
  case first =>
    have H := HC3.out
    clear HC3
    by_cases c5 : (l1.length : Int) > 300
    · rw [if_pos c5] at H
      have c5b0 : decide (300 < (l1.length : Int)) = true := decide_eq_true c5
      have c5b1 : decide (300 < l1.length) = true := decide_eq_true (by omega)
      clear c5
      (first | rw [c5b0] | (simp only [i64_w, i32_w]; rw [c5b0]) | skip)
      by_cases c6 : 300 ≤ (l1.length : Int)
      · rw [if_pos c6] at H
        have c6b0 := eq_true c6
        have c6b1 : decide (300 ≤ (l1.length : Int)) = true := decide_eq_true c6
        clear c6
        obtain ⟨y309, hy309⟩ : ∃ y_ : List Int, y_ = (l1.take 300) := ⟨_, rfl⟩
        replace H : (offertorylaw13_StatsOf.j0 k y309 a0_0 a0_1 a0_2 l0_3) = some r := by first | (rw [hy309]; with_reducible exact H) | (have H2_ := (Option.bind_some _ _).symm.trans H; rw [hy309]; with_reducible exact H2_) | (have H2_ := (Option.bind_some _ _).symm.trans H; with_reducible exact H2_) | with_reducible exact H | (rw [hy309]; exact H) | exact H
        have Ny309 := Aside0.mk hy309
        clear hy309
        have H' := Aside0.mk H
        clear H
        have q7 : (300 : Int) ≤ ((l1.length : Int) : Int) := of_decide_eq_true (by first | (with_reducible assumption) | assumption)
        obtain ⟨i07, hi07, _, hsz7, _⟩ := info_parts info3
        have hroom7 : l1.length ≤ c1 := (Kd.V_reads' HO1.out).2.1
        have hC7 : Kd.F (Kd.int .i64) _ _ A1 l1.length l1 := (Kd.V_at (base := w.heap.size) HO1.out).2.2
        have hcut7 := cut_to (P := Try.prog) 22 3 .i64 Try.underlying22 hi07 A1 l1.length c1 300 (by omega) q7 hroom7
        have hr7 := Kd.F_take (m := 300) hC7 (by omega)
        have hy7 : y309.length = (300 : Int).toNat := (by rw [Ny309.out, List.length_take]; omega)
        rw [← Ny309.out] at hr7
        rw [← hy7] at hcut7
        have HO313 := Aside0.mk (show Kd.V (Kd.int .i64) 3 _ w.heap.size _ (.slice A1 y309.length c1) y309 from Kd.V_mk (by omega) hr7)
        have HC313 := Aside0.mk (show y309.length ≤ c1 from by omega)
        clear hr7 hC7 hroom7 hi07 hsz7
        have KY7 := Aside0.mk hy7
        clear hy7
        replace q7 := eq_true q7
        go_wp2
        go_meet
        case rel => exact ⟨_, (y309), H', ⟨by first | omega | exact Nat.le_refl _⟩, ⟨by (with_reducible repeat (first | apply Kd.V_alloc | apply Kd.V_drewN | apply Kd.V_drew)); exact HO313.out⟩, ⟨by (with_reducible repeat (first | refine blk_drewN ?_ _ | refine blk_drew ?_ | refine blk_alloc ?_ _)); exact BK308.out⟩, ⟨by repeat (first | (with_reducible first | exact HB.out | apply below_alloc | apply pw_below_drewN | apply below_drew1 | refine below_set ?_ GE308.out) | exact HB.out)⟩⟩
      · rw [if_neg c6] at H
        exact absurd H (by simp)
    · rw [if_neg c5] at H
      have c5b0 : decide (300 < (l1.length : Int)) = false := decide_eq_false c5
      have c5b1 : decide (300 < l1.length) = false := decide_eq_false (by omega)
      clear c5
      (first | rw [c5b0] | (simp only [i64_w, i32_w]; rw [c5b0]) | skip)
      have H' := Aside0.mk H
      clear H
      go_wp2
      go_meet
      case rel => exact ⟨_, (l1), H', ⟨by first | omega | exact Nat.le_refl _⟩, ⟨by (with_reducible repeat (first | apply Kd.V_alloc | apply Kd.V_drewN | apply Kd.V_drew)); exact HO1.out⟩, ⟨by (with_reducible repeat (first | refine blk_drewN ?_ _ | refine blk_drew ?_ | refine blk_alloc ?_ _)); exact BK308.out⟩, ⟨by repeat (first | (with_reducible first | exact HB.out | apply below_alloc | apply pw_below_drewN | apply below_drew1 | refine below_set ?_ GE308.out) | exact HB.out)⟩⟩
  case rest =>
    clear HC3
    try clear c1
    try clear p2
    try clear c3
    try clear c5
    try clear c5b0
    try clear c5b1
    try clear c6
    try clear c6b0
    try clear c6b1
    try clear q7
    try clear q7
    obtain ⟨kq, x1_2, HA, HJ2, HO_1, BK308, HB⟩ := hcut
    cases kq with
    | zero => exact absurd HA.out (by simp [offertorylaw13_StatsOf.j0])
    | succ kj2 =>
      have H := HA.out
      clear HA
      simp only [offertorylaw13_StatsOf.j0] at H
      replace H := Option.bind_eq_some_iff.mp H
      obtain ⟨⟨t314, t317, t318, t319, t320, t321, t322, t323⟩, A80, H⟩ := H
      replace H : ((offertoryref09_Sound.f kj2 a0_0 a0_1 a0_2 l0_3).bind fun t325 => (if t325 = 0 then ((offertorylaw13_awake.f kj2).bind fun t326 => (if t326 = true then (if t323 = 0 then ((offertoryref09_Stats.f kj2 a0_0 a0_1 a0_2 l0_3 x1_2).bind fun bt327 => ((offertoryref09_Same.f kj2 t314 t317 t318 t319 t320 t321 t322 bt327.1 bt327.2.1 bt327.2.2.1 bt327.2.2.2.1 bt327.2.2.2.2.1 bt327.2.2.2.2.2.1 bt327.2.2.2.2.2.2).bind fun t336 => (some t336))) else (none)) else (none))) else ((offertorylaw13_awake.f kj2).bind fun t337 => (if t337 = true then (if t323 = t325 then ((offertoryref09_Same.f kj2 t314 t317 t318 t319 t320 t321 t322 ([] : List Int) 0 0 0 0 0 false).bind fun t338 => (some t338)) else (none)) else (none))))) = some r := H
      have A8 := Aside0.mk A80
      clear A80
      replace H := Option.bind_eq_some_iff.mp H
      obtain ⟨t325, A90, H⟩ := H
      replace H : (if t325 = 0 then ((offertorylaw13_awake.f kj2).bind fun t326 => (if t326 = true then (if t323 = 0 then ((offertoryref09_Stats.f kj2 a0_0 a0_1 a0_2 l0_3 x1_2).bind fun bt327 => ((offertoryref09_Same.f kj2 t314 t317 t318 t319 t320 t321 t322 bt327.1 bt327.2.1 bt327.2.2.1 bt327.2.2.2.1 bt327.2.2.2.2.1 bt327.2.2.2.2.2.1 bt327.2.2.2.2.2.2).bind fun t336 => (some t336))) else (none)) else (none))) else ((offertorylaw13_awake.f kj2).bind fun t337 => (if t337 = true then (if t323 = t325 then ((offertoryref09_Same.f kj2 t314 t317 t318 t319 t320 t321 t322 ([] : List Int) 0 0 0 0 0 false).bind fun t338 => (some t338)) else (none)) else (none)))) = some r := H
      have A9 := Aside0.mk A90
      clear A90
      by_cases c10 : t325 = 0
      · rw [if_pos c10] at H
        have c10b0 : (t325 == 0) = true := beq_iff_eq.mpr c10
        have c10b1 : (t325 != 0) = false := bne_eq_false_iff_eq.mpr c10
        clear c10
        replace H := Option.bind_eq_some_iff.mp H
        obtain ⟨t326, A110, H⟩ := H
        replace H : (if t326 = true then (if t323 = 0 then ((offertoryref09_Stats.f kj2 a0_0 a0_1 a0_2 l0_3 x1_2).bind fun bt327 => ((offertoryref09_Same.f kj2 t314 t317 t318 t319 t320 t321 t322 bt327.1 bt327.2.1 bt327.2.2.1 bt327.2.2.2.1 bt327.2.2.2.2.1 bt327.2.2.2.2.2.1 bt327.2.2.2.2.2.2).bind fun t336 => (some t336))) else (none)) else (none)) = some r := H
        have A11 := Aside0.mk A110
        clear A110
        by_cases c12 : t326 = true
        · subst c12
          have H1 : (if t323 = 0 then ((offertoryref09_Stats.f kj2 a0_0 a0_1 a0_2 l0_3 x1_2).bind fun bt327 => ((offertoryref09_Same.f kj2 t314 t317 t318 t319 t320 t321 t322 bt327.1 bt327.2.1 bt327.2.2.1 bt327.2.2.2.1 bt327.2.2.2.2.1 bt327.2.2.2.2.2.1 bt327.2.2.2.2.2.2).bind fun t336 => (some t336))) else (none)) = some r := by rw [if_pos rfl] at H; exact H
          clear H
          have H := H1
          clear H1
          by_cases c13 : t323 = 0
          · rw [if_pos c13] at H
            have c13b0 : (t323 == 0) = true := beq_iff_eq.mpr c13
            have c13b1 : (t323 != 0) = false := bne_eq_false_iff_eq.mpr c13
            clear c13
            replace H := Option.bind_eq_some_iff.mp H
            obtain ⟨⟨t327, t330, t331, t332, t333, t334, t335⟩, A140, H⟩ := H
            replace H : ((offertoryref09_Same.f kj2 t314 t317 t318 t319 t320 t321 t322 t327 t330 t331 t332 t333 t334 t335).bind fun t336 => (some t336)) = some r := H
            have A14 := Aside0.mk A140
            clear A140
            replace H := Option.bind_eq_some_iff.mp H
            obtain ⟨t336, A150, H⟩ := H
            replace H : (some t336) = some r := H
            have A15 := Aside0.mk A150
            clear A150
            obtain rfl := Option.some.inj H
            have hcz16_0 : wc.cell? ⟨gb308, 0, none⟩ = some (.int .i64 a0_0) := (blk_cell BK308.out 0).trans rfl
            have hcz16_1 : wc.cell? ⟨gb308, 1, none⟩ = some (.int .i64 a0_1) := (blk_cell BK308.out 1).trans rfl
            have hcz16_2 : wc.cell? ⟨gb308, 2, none⟩ = some (.int .i64 a0_2) := (blk_cell BK308.out 2).trans rfl
            have hcz16_3 : wc.cell? ⟨gb308, 3, none⟩ = some (.slice A0_3 l0_3.length c0_3) := (blk_cell BK308.out 3).trans rfl
            have hfz16_0 := blk_frozen BK308.out 0
            have hfz16_1 := blk_frozen BK308.out 1
            have hfz16_2 := blk_frozen BK308.out 2
            have hfz16_3 := blk_frozen BK308.out 3
            obtain ⟨Ao17, co17, eo17⟩ := Kd.V_slice HO_1.out
            subst eo17
            try go_wp2_with (first | ((with_reducible refine gate_callee (f := 8) rfl ?_); refine goesL_ (some 16) rfl rfl Try.func8 (by kernel_rfl) rfl #[.agg #[.int .i64 a0_0, .int .i64 a0_1, .int .i64 a0_2, .slice A0_3 l0_3.length c0_3], .slice Ao17 x1_2.length co17] rfl (by (try simp only [List.map_toArray, List.map_cons, List.map_nil]); first | done | rfl | (simp only [List.length_drop, List.length_take]; rfl)) ?_; (with_reducible refine (stats_Of.calls kj2 a0_0 a0_1 a0_2 _ _ l0_3 _ _ x1_2 t314 t317 t318 t319 t320 t321 t322 t323 _ ?side1 ?side2 ?side3 ?side4 A8.out).mono ?_); (case side1 => repeat (first | exact (Kd.C_below HR0_3.out HB.out) | (with_reducible refine Kd.C_alloc ?_ _) | (with_reducible refine Kd.C_drewN ?_ _) | (with_reducible refine Kd.C_drew ?_))); (case side2 => exact HC0_3.out); (case side3 => repeat (first | exact (Kd.V_reads' HO_1.out).2.2 | (with_reducible refine Kd.C_alloc ?_ _) | (with_reducible refine Kd.C_drewN ?_ _) | (with_reducible refine Kd.C_drew ?_))); (case side4 => exact (Kd.V_reads' HO_1.out).2.1); rintro e w18 ⟨v315, rfl, ho0, hb⟩; refine ⟨_, rfl, ?_⟩; have n0_ := Aside0.mk (Kd.V_elder' (by (with_reducible repeat (first | apply Kd.V_alloc | apply Kd.V_drewN | apply Kd.V_drew)); exact HO_1.out) (Kd.R_base ho0) hb); have n1_ := Aside0.mk (Kd.R_lower (Kd.R_newM (M := fun k_ => (w.heap.size ≤ k_)) ho0 (below_size (by repeat (first | (with_reducible first | exact HB.out | apply below_alloc | apply pw_below_drewN | apply below_drew1 | refine below_set ?_ GE308.out) | exact HB.out))) (fun k_ h_ => h_)) (below_size (by repeat (first | (with_reducible first | exact HB.out | apply below_alloc | apply pw_below_drewN | apply below_drew1 | refine below_set ?_ GE308.out) | exact HB.out)))); have n2_ := Aside0.mk (blk_below (g := gb308) (o := .cells #[.int .i64 a0_0, .int .i64 a0_1, .int .i64 a0_2, .slice A0_3 l0_3.length c0_3] 24 (0, 0)) (by (with_reducible repeat (first | refine blk_drewN ?_ _ | refine blk_drew ?_ | refine blk_alloc ?_ _)); exact BK308.out) hb); have n3_ := Aside0.mk (below_step (by repeat (first | (with_reducible first | exact HB.out | apply below_alloc | apply pw_below_drewN | apply below_drew1 | refine below_set ?_ GE308.out) | exact HB.out)) hb); clear HO_1; clear BK308; clear HB; have HO_1 := n0_; have HO316 := n1_; have BK308 := n2_; have HB := n3_; clear n0_ n1_ n2_ n3_; (try clear hb); (try clear hb2); (try clear hk); (try clear hi); (try clear ho0)) | ((with_reducible refine gate_dst (N := 5) rfl ?_); refine box_event ?hg (N := 5) ?hd (cs := #[.slice none 0 0, .int .i64 0, .int .u64 0, .int .u64 0, .int .u64 0, .int .u64 0, .bool false]) (t := 29) ?hr ?_; (case hd => rfl); (case hg => rfl); (case hr => first | (go_simp; done) | (go_simp; rfl)); intro gb324 hg w19 hbox hb; have n0_ := Aside0.mk (Kd.V_below (Kd.V_elderB (by (with_reducible repeat (first | apply Kd.V_alloc | apply Kd.V_drewN | apply Kd.V_drew)); exact HO_1.out) gb324 (Nat.le_of_eq hg.symm)) hb); have n1_ := Aside0.mk (Kd.R_below (by (with_reducible repeat (first | apply Kd.R_alloc | apply Kd.R_drewN | apply Kd.R_drew)); exact HO316.out) hb); have n2_ := Aside0.mk (blk_below (g := gb308) (o := .cells #[.int .i64 a0_0, .int .i64 a0_1, .int .i64 a0_2, .slice A0_3 l0_3.length c0_3] 24 (0, 0)) (by (with_reducible repeat (first | refine blk_drewN ?_ _ | refine blk_drew ?_ | refine blk_alloc ?_ _)); exact BK308.out) hb); have n3_ := Aside0.mk (below_step (by repeat (first | (with_reducible first | exact HB.out | apply below_alloc | apply pw_below_drewN | apply below_drew1 | refine below_set ?_ GE308.out) | exact HB.out)) hb); have n4_ := Aside0.mk (hbox); have n5_ := Aside0.mk ((by rw [hg]; exact (below_size (by repeat (first | (with_reducible first | exact HB.out | apply below_alloc | apply pw_below_drewN | apply below_drew1 | refine below_set ?_ GE308.out) | exact HB.out))) : w.heap.size ≤ gb324)); have n6_ := Aside0.mk ((by rw [hg]; exact (below_size (by repeat (first | (with_reducible first | exact HB.out | apply below_alloc | apply pw_below_drewN | apply below_drew1 | refine below_set ?_ GE308.out) | exact HB.out))) : w.heap.size ≤ gb324)); have n7_ := Aside0.mk ((by rw [hg]; exact Nat.ne_of_lt (blk_lt (g := gb308) (o := .cells #[.int .i64 a0_0, .int .i64 a0_1, .int .i64 a0_2, .slice A0_3 l0_3.length c0_3] 24 (0, 0)) (by (with_reducible repeat (first | refine blk_drewN ?_ _ | refine blk_drew ?_ | refine blk_alloc ?_ _)); exact BK308.out)) : gb308 ≠ gb324)); have n8_ := Aside0.mk ((by rw [hg]; exact Nat.ne_of_gt (blk_lt (g := gb308) (o := .cells #[.int .i64 a0_0, .int .i64 a0_1, .int .i64 a0_2, .slice A0_3 l0_3.length c0_3] 24 (0, 0)) (by (with_reducible repeat (first | refine blk_drewN ?_ _ | refine blk_drew ?_ | refine blk_alloc ?_ _)); exact BK308.out)) : gb324 ≠ gb308)); clear HO_1; clear HO316; clear BK308; clear HB; have HO_1 := n0_; have HO316 := n1_; have BK308 := n2_; have HB := n3_; have BK324 := n4_; have GW324 := n5_; have GE324 := n6_; have NB308_324 := n7_; have NB324_308 := n8_; clear n0_ n1_ n2_ n3_ n4_ n5_ n6_ n7_ n8_; clear hb hbox hg; obtain ⟨Ao20, co20, eo20⟩ := Kd.R_slice HO316.out; subst eo20; have hnb21 := NB324_308.out; have hnc21 := NB308_324.out; have hcz22_0 : w19.cell? ⟨gb324, 0, none⟩ = some (.slice none 0 0) := (blk_cell BK324.out 0).trans rfl; have hcz22_1 : w19.cell? ⟨gb324, 1, none⟩ = some (.int .i64 0) := (blk_cell BK324.out 1).trans rfl; have hcz22_2 : w19.cell? ⟨gb324, 2, none⟩ = some (.int .u64 0) := (blk_cell BK324.out 2).trans rfl; have hcz22_3 : w19.cell? ⟨gb324, 3, none⟩ = some (.int .u64 0) := (blk_cell BK324.out 3).trans rfl; have hcz22_4 : w19.cell? ⟨gb324, 4, none⟩ = some (.int .u64 0) := (blk_cell BK324.out 4).trans rfl; have hcz22_5 : w19.cell? ⟨gb324, 5, none⟩ = some (.int .u64 0) := (blk_cell BK324.out 5).trans rfl; have hcz22_6 : w19.cell? ⟨gb324, 6, none⟩ = some (.bool false) := (blk_cell BK324.out 6).trans rfl; have hfz22_0 := blk_frozen BK324.out 0; have hfz22_1 := blk_frozen BK324.out 1; have hfz22_2 := blk_frozen BK324.out 2; have hfz22_3 := blk_frozen BK324.out 3; have hfz22_4 := blk_frozen BK324.out 4; have hfz22_5 := blk_frozen BK324.out 5; have hfz22_6 := blk_frozen BK324.out 6; have hcz23_0 : w19.cell? ⟨gb308, 0, none⟩ = some (.int .i64 a0_0) := (blk_cell BK308.out 0).trans rfl; have hcz23_1 : w19.cell? ⟨gb308, 1, none⟩ = some (.int .i64 a0_1) := (blk_cell BK308.out 1).trans rfl; have hcz23_2 : w19.cell? ⟨gb308, 2, none⟩ = some (.int .i64 a0_2) := (blk_cell BK308.out 2).trans rfl; have hcz23_3 : w19.cell? ⟨gb308, 3, none⟩ = some (.slice A0_3 l0_3.length c0_3) := (blk_cell BK308.out 3).trans rfl; have hfz23_0 := blk_frozen BK308.out 0; have hfz23_1 := blk_frozen BK308.out 1; have hfz23_2 := blk_frozen BK308.out 2; have hfz23_3 := blk_frozen BK308.out 3) | ((with_reducible refine gate_callee (f := 9) rfl ?_); refine goesL_ (some 20) rfl rfl Try.func9 (by kernel_rfl) rfl #[.agg #[.int .i64 a0_0, .int .i64 a0_1, .int .i64 a0_2, .slice A0_3 l0_3.length c0_3]] rfl (by (try simp only [List.map_toArray, List.map_cons, List.map_nil]); first | done | rfl | (simp only [List.length_drop, List.length_take]; rfl)) ?_; (with_reducible refine (offertoryref09_Sound.calls kj2 a0_0 a0_1 a0_2 _ _ l0_3 t325 _ ?side1 ?side2 A9.out).mono ?_); (case side1 => exact Kd.C_below HR0_3.out (by repeat (first | (with_reducible first | exact HB.out | apply below_alloc | apply pw_below_drewN | apply below_drew1 | refine below_set ?_ GE308.out | refine below_set ?_ GE324.out) | exact HB.out))); (case side2 => exact HC0_3.out); rintro e w24 ⟨rfl, hb⟩; refine ⟨_, rfl, ?_⟩; have n0_ := Aside0.mk (Kd.V_below (by (with_reducible repeat (first | apply Kd.V_alloc | apply Kd.V_drewN | apply Kd.V_drew)); exact (Kd.V_mono (Kd.V_far (p := ⟨gb324, 6, none⟩) (Kd.V_far (p := ⟨gb324, 5, none⟩) (Kd.V_far (p := ⟨gb324, 4, none⟩) (Kd.V_far (p := ⟨gb324, 3, none⟩) (Kd.V_far (p := ⟨gb324, 2, none⟩) (Kd.V_far (p := ⟨gb324, 1, none⟩) (Kd.V_far (p := ⟨gb324, 0, none⟩) (Kd.V_mono HO_1.out (fun k_ hk => (⟨hk, hk.2⟩ : _ ∧ k_ ≠ gb324))) (fun _ hk => hk.2) (.slice Ao20 t314.length co20)) (fun _ hk => hk.2) (.int .i64 t317)) (fun _ hk => hk.2) (.int .u64 t318)) (fun _ hk => hk.2) (.int .u64 t319)) (fun _ hk => hk.2) (.int .u64 t320)) (fun _ hk => hk.2) (.int .u64 t321)) (fun _ hk => hk.2) (.bool t322)) (fun _ h_ => h_.1))) hb); have n1_ := Aside0.mk (Kd.R_below (by (with_reducible repeat (first | apply Kd.R_alloc | apply Kd.R_drewN | apply Kd.R_drew)); exact (Kd.R_mono (Kd.R_far (p := ⟨gb324, 6, none⟩) (Kd.R_far (p := ⟨gb324, 5, none⟩) (Kd.R_far (p := ⟨gb324, 4, none⟩) (Kd.R_far (p := ⟨gb324, 3, none⟩) (Kd.R_far (p := ⟨gb324, 2, none⟩) (Kd.R_far (p := ⟨gb324, 1, none⟩) (Kd.R_far (p := ⟨gb324, 0, none⟩) (Kd.R_types HO316.out BK324.out (by decide)) (fun _ hk => hk.2) (.slice Ao20 t314.length co20)) (fun _ hk => hk.2) (.int .i64 t317)) (fun _ hk => hk.2) (.int .u64 t318)) (fun _ hk => hk.2) (.int .u64 t319)) (fun _ hk => hk.2) (.int .u64 t320)) (fun _ hk => hk.2) (.int .u64 t321)) (fun _ hk => hk.2) (.bool t322)) (fun _ h_ => h_.1))) hb); have n2_ := Aside0.mk (blk_below (g := gb308) (o := .cells #[.int .i64 a0_0, .int .i64 a0_1, .int .i64 a0_2, .slice A0_3 l0_3.length c0_3] 24 (0, 0)) (by (with_reducible repeat (first | refine blk_drewN ?_ _ | refine blk_drew ?_ | refine blk_alloc ?_ _)); refine blk_far ?_ NB308_324.out _; (with_reducible repeat (first | refine blk_drewN ?_ _ | refine blk_drew ?_ | refine blk_alloc ?_ _)); refine blk_far ?_ NB308_324.out _; (with_reducible repeat (first | refine blk_drewN ?_ _ | refine blk_drew ?_ | refine blk_alloc ?_ _)); refine blk_far ?_ NB308_324.out _; (with_reducible repeat (first | refine blk_drewN ?_ _ | refine blk_drew ?_ | refine blk_alloc ?_ _)); refine blk_far ?_ NB308_324.out _; (with_reducible repeat (first | refine blk_drewN ?_ _ | refine blk_drew ?_ | refine blk_alloc ?_ _)); refine blk_far ?_ NB308_324.out _; (with_reducible repeat (first | refine blk_drewN ?_ _ | refine blk_drew ?_ | refine blk_alloc ?_ _)); refine blk_far ?_ NB308_324.out _; (with_reducible repeat (first | refine blk_drewN ?_ _ | refine blk_drew ?_ | refine blk_alloc ?_ _)); refine blk_far ?_ NB308_324.out _; (with_reducible repeat (first | refine blk_drewN ?_ _ | refine blk_drew ?_ | refine blk_alloc ?_ _)); exact BK308.out) hb); have n3_ := Aside0.mk (blk_below (g := gb324) (o := .cells #[.slice Ao20 t314.length co20, .int .i64 t317, .int .u64 t318, .int .u64 t319, .int .u64 t320, .int .u64 t321, .bool t322] 29 (0, 0)) (by (with_reducible repeat (first | refine blk_drewN ?_ _ | refine blk_drew ?_ | refine blk_alloc ?_ _)); refine blk_put (cs := #[.slice Ao20 t314.length co20, .int .i64 t317, .int .u64 t318, .int .u64 t319, .int .u64 t320, .int .u64 t321, .bool false]) ?_ 6 _ rfl; (with_reducible repeat (first | refine blk_drewN ?_ _ | refine blk_drew ?_ | refine blk_alloc ?_ _)); refine blk_put (cs := #[.slice Ao20 t314.length co20, .int .i64 t317, .int .u64 t318, .int .u64 t319, .int .u64 t320, .int .u64 0, .bool false]) ?_ 5 _ rfl; (with_reducible repeat (first | refine blk_drewN ?_ _ | refine blk_drew ?_ | refine blk_alloc ?_ _)); refine blk_put (cs := #[.slice Ao20 t314.length co20, .int .i64 t317, .int .u64 t318, .int .u64 t319, .int .u64 0, .int .u64 0, .bool false]) ?_ 4 _ rfl; (with_reducible repeat (first | refine blk_drewN ?_ _ | refine blk_drew ?_ | refine blk_alloc ?_ _)); refine blk_put (cs := #[.slice Ao20 t314.length co20, .int .i64 t317, .int .u64 t318, .int .u64 0, .int .u64 0, .int .u64 0, .bool false]) ?_ 3 _ rfl; (with_reducible repeat (first | refine blk_drewN ?_ _ | refine blk_drew ?_ | refine blk_alloc ?_ _)); refine blk_put (cs := #[.slice Ao20 t314.length co20, .int .i64 t317, .int .u64 0, .int .u64 0, .int .u64 0, .int .u64 0, .bool false]) ?_ 2 _ rfl; (with_reducible repeat (first | refine blk_drewN ?_ _ | refine blk_drew ?_ | refine blk_alloc ?_ _)); refine blk_put (cs := #[.slice Ao20 t314.length co20, .int .i64 0, .int .u64 0, .int .u64 0, .int .u64 0, .int .u64 0, .bool false]) ?_ 1 _ rfl; (with_reducible repeat (first | refine blk_drewN ?_ _ | refine blk_drew ?_ | refine blk_alloc ?_ _)); refine blk_put (cs := #[.slice none 0 0, .int .i64 0, .int .u64 0, .int .u64 0, .int .u64 0, .int .u64 0, .bool false]) ?_ 0 _ rfl; (with_reducible repeat (first | refine blk_drewN ?_ _ | refine blk_drew ?_ | refine blk_alloc ?_ _)); exact BK324.out) hb); have n4_ := Aside0.mk (below_step (by repeat (first | (with_reducible first | exact HB.out | apply below_alloc | apply pw_below_drewN | apply below_drew1 | refine below_set ?_ GE308.out | refine below_set ?_ GE324.out) | exact HB.out)) hb); clear HO_1; clear HO316; clear BK308; clear BK324; clear HB; have HO_1 := n0_; have HO316 := n1_; have BK308 := n2_; have BK324 := n3_; have HB := n4_; clear n0_ n1_ n2_ n3_ n4_; (try clear hb); (try clear hb2); (try clear hk); (try clear hi)))
            have n0_ := Aside0.mk (Kd.V_drew HO_1.out)
            have n1_ := Aside0.mk (Kd.R_drew HO316.out)
            have n2_ := Aside0.mk (blk_drew BK308.out)
            have n3_ := Aside0.mk (blk_drew BK324.out)
            have n4_ := Aside0.mk (below_drew1 HB.out)
            clear HO_1
            clear HO316
            clear BK308
            clear BK324
            clear HB
            have HO_1 := n0_
            have HO316 := n1_
            have BK308 := n2_
            have BK324 := n3_
            have HB := n4_
            clear n0_ n1_ n2_ n3_ n4_
            refine start_ (n := 13) (S := fun w' => w'.cell? ⟨gb324, 0, none⟩ = some (.slice Ao20 t314.length co20) ∧ w'.cell? ⟨gb324, 1, none⟩ = some (.int .i64 t317) ∧ w'.cell? ⟨gb324, 2, none⟩ = some (.int .u64 t318) ∧ w'.cell? ⟨gb324, 3, none⟩ = some (.int .u64 t319) ∧ w'.cell? ⟨gb324, 4, none⟩ = some (.int .u64 t320) ∧ w'.cell? ⟨gb324, 5, none⟩ = some (.int .u64 t321) ∧ w'.cell? ⟨gb324, 6, none⟩ = some (.bool t322) ∧ w'.cell? ⟨gb308, 0, none⟩ = some (.int .i64 a0_0) ∧ w'.cell? ⟨gb308, 1, none⟩ = some (.int .i64 a0_1) ∧ w'.cell? ⟨gb308, 2, none⟩ = some (.int .i64 a0_2) ∧ w'.cell? ⟨gb308, 3, none⟩ = some (.slice A0_3 l0_3.length c0_3)) (ds := []) #[false, false, false, false, false, false, false, false, false, false, false, false, false] (by kernel_rfl) rfl rfl ⟨(blk_cell BK324.out 0).trans rfl, (blk_cell BK324.out 1).trans rfl, (blk_cell BK324.out 2).trans rfl, (blk_cell BK324.out 3).trans rfl, (blk_cell BK324.out 4).trans rfl, (blk_cell BK324.out 5).trans rfl, (blk_cell BK324.out 6).trans rfl, (blk_cell BK308.out 0).trans rfl, (blk_cell BK308.out 1).trans rfl, (blk_cell BK308.out 2).trans rfl, (blk_cell BK308.out 3).trans rfl⟩ (fun hHeld => ?_); refine with_tabW offertorylaw13_StatsOf.tab7 offertorylaw13_StatsOf.bits7 (fun HT_ HW_ => ?_)
            generalize w24.drew = w25 at HO_1 HO316 BK308 BK324 HB hHeld ⊢
            refine one_ (i := 0) (N := some 34) #[true, false, false, false, false, false, false, false, false, false, false, false, false] rfl rfl (one_of HT_.out (by kernel_rfl)) (by decide) (fun K hK => ?_)
            refine goes_ Try.func10 (by kernel_rfl) rfl #[] (by rfl) rfl rfl (by (try simp only [List.map_toArray, List.map_cons, List.map_nil]); first | done | rfl | (simp only [List.length_drop, List.length_take]; rfl)) ?_
            with_reducible refine (offertorylaw13_awake.calls kj2  true _ A11.out).mono ?_
            rintro e w26 ⟨rfl, hb⟩
            refine ⟨_, rfl, ?_⟩
            have n0_ := Aside0.mk (Kd.V_below (by (with_reducible repeat (first | apply Kd.V_alloc | apply Kd.V_drewN | apply Kd.V_drew)); exact HO_1.out) hb)
            have n1_ := Aside0.mk (Kd.R_below (by (with_reducible repeat (first | apply Kd.R_alloc | apply Kd.R_drewN | apply Kd.R_drew)); exact HO316.out) hb)
            have n2_ := Aside0.mk (blk_below (g := gb308) (o := .cells #[.int .i64 a0_0, .int .i64 a0_1, .int .i64 a0_2, .slice A0_3 l0_3.length c0_3] 24 (0, 0)) (by (with_reducible repeat (first | refine blk_drewN ?_ _ | refine blk_drew ?_ | refine blk_alloc ?_ _)); exact BK308.out) hb)
            have n3_ := Aside0.mk (blk_below (g := gb324) (o := .cells #[.slice Ao20 t314.length co20, .int .i64 t317, .int .u64 t318, .int .u64 t319, .int .u64 t320, .int .u64 t321, .bool t322] 29 (0, 0)) (by (with_reducible repeat (first | refine blk_drewN ?_ _ | refine blk_drew ?_ | refine blk_alloc ?_ _)); exact BK324.out) hb)
            have n4_ := Aside0.mk (below_step (by repeat (first | (with_reducible first | exact HB.out | apply below_alloc | apply pw_below_drewN | apply below_drew1 | refine below_set ?_ GE308.out | refine below_set ?_ GE324.out) | exact HB.out)) hb)
            clear HO_1
            clear HO316
            clear BK308
            clear BK324
            clear HB
            have HO_1 := n0_
            have HO316 := n1_
            have BK308 := n2_
            have BK324 := n3_
            have HB := n4_
            clear n0_ n1_ n2_ n3_ n4_
            (try clear hb)
            (try clear hb2)
            (try clear hk)
            (try clear hi)
            refine hK.out _ _ ⟨(blk_cell BK324.out 0).trans rfl, (blk_cell BK324.out 1).trans rfl, (blk_cell BK324.out 2).trans rfl, (blk_cell BK324.out 3).trans rfl, (blk_cell BK324.out 4).trans rfl, (blk_cell BK324.out 5).trans rfl, (blk_cell BK324.out 6).trans rfl, (blk_cell BK308.out 0).trans rfl, (blk_cell BK308.out 1).trans rfl, (blk_cell BK308.out 2).trans rfl, (blk_cell BK308.out 3).trans rfl⟩ (fun hHeld => ?_)
            clear hK K
            refine norm_ (a' := ?_) ?_ ?_
            rotate_left
            · show Act.put _ (some 34) _ = _
              simp only [Act.put, List.setIfInBounds_toArray, List.set_cons_zero, List.set_cons_succ, i64_w, i32_w]
              rfl
            refine pure_ (i := 1) (N := some 35) (v := ?_) (a' := ?_) #[true, true, false, false, false, false, false, false, false, false, false, false, false] rfl rfl (any_of HT_.out (by kernel_rfl)) (fun _ _ _ h => h) (Or.inl ⟨by rfl, ?_⟩) ?_ ?_
            rotate_left
            · intro w'
              (try simp only [add_plain] at s0 s1 s2 s3 s4 s5 s6 s7 s8 s9 s10)
              go_simp
              with_reducible rfl
            rotate_left
            · simp only [Act.put, List.setIfInBounds_toArray, List.set_cons_zero, List.set_cons_succ, i64_w, i32_w]
              rfl
            refine pure_ (i := 2) (N := some 36) (v := ?_) (a' := ?_) #[true, true, true, false, false, false, false, false, false, false, false, false, false] rfl rfl (any_of HT_.out (by kernel_rfl)) (fun _ _ _ h => h) (Or.inl ⟨by rfl, ?_⟩) ?_ ?_
            rotate_left
            · intro w'
              (try simp only [add_plain] at s0 s1 s2 s3 s4 s5 s6 s7 s8 s9 s10)
              go_simp
              with_reducible rfl
            rotate_left
            · simp only [Act.put, List.setIfInBounds_toArray, List.set_cons_zero, List.set_cons_succ, i64_w, i32_w]
              rfl
            refine pure_ (i := 3) (N := some 37) (v := ?_) (a' := ?_) #[true, true, true, true, false, false, false, false, false, false, false, false, false] rfl rfl (any_of HT_.out (by kernel_rfl)) (fun _ _ _ h => h) (Or.inl ⟨by rfl, ?_⟩) ?_ ?_
            rotate_left
            · intro w'
              (try simp only [add_plain] at s0 s1 s2 s3 s4 s5 s6 s7 s8 s9 s10)
              go_simp
              with_reducible rfl
            rotate_left
            · simp only [Act.put, List.setIfInBounds_toArray, List.set_cons_zero, List.set_cons_succ, i64_w, i32_w]
              rfl
            refine pure_ (i := 4) (N := some 38) (v := ?_) (a' := ?_) #[true, true, true, true, true, false, false, false, false, false, false, false, false] rfl rfl (any_of HT_.out (by kernel_rfl)) (fun _ _ _ h => h) (Or.inl ⟨by rfl, ?_⟩) ?_ ?_
            rotate_left
            · intro w'
              (try simp only [add_plain] at s0 s1 s2 s3 s4 s5 s6 s7 s8 s9 s10)
              go_simp
              with_reducible rfl
            rotate_left
            · simp only [Act.put, List.setIfInBounds_toArray, List.set_cons_zero, List.set_cons_succ, i64_w, i32_w]
              rfl
            refine pure_ (i := 5) (N := some 39) (v := ?_) (a' := ?_) #[true, true, true, true, true, true, false, false, false, false, false, false, false] rfl rfl (any_of HT_.out (by kernel_rfl)) (fun _ _ _ h => h) (Or.inl ⟨by rfl, ?_⟩) ?_ ?_
            rotate_left
            · intro w'
              (try simp only [add_plain] at s0 s1 s2 s3 s4 s5 s6 s7 s8 s9 s10)
              go_simp
              with_reducible rfl
            rotate_left
            · simp only [Act.put, List.setIfInBounds_toArray, List.set_cons_zero, List.set_cons_succ, i64_w, i32_w]
              rfl
            refine pure_ (i := 8) (N := some 42) (v := ?_) (a' := ?_) #[true, true, true, true, true, true, false, false, true, false, false, false, false] rfl rfl (any_of HT_.out (by kernel_rfl)) (fun _ _ _ h => h) (Or.inl ⟨by rfl, ?_⟩) ?_ ?_
            rotate_left
            · intro w'
              (try simp only [add_plain] at s0 s1 s2 s3 s4 s5 s6 s7 s8 s9 s10)
              go_simp
              with_reducible rfl
            rotate_left
            · simp only [Act.put, List.setIfInBounds_toArray, List.set_cons_zero, List.set_cons_succ, i64_w, i32_w]
              rfl
            refine take_ (i := 6) (N := some 40) (v := ?_) (a' := ?_) #[true, true, true, true, true, true, true, false, true, false, false, false, false] rfl rfl (take_ofW HT_.out HW_.out (by kernel_rfl)) (fun _ _ _ h => h) (Or.inl ⟨by rfl, ?_⟩) hHeld ?_ ?_
            rotate_left
            · rintro w' ⟨s0, s1, s2, s3, s4, s5, s6, s7, s8, s9, s10⟩
              (try simp only [add_plain] at s0 s1 s2 s3 s4 s5 s6 s7 s8 s9 s10)
              go_simp
              with_reducible rfl
            rotate_left
            · simp only [Act.put, List.setIfInBounds_toArray, List.set_cons_zero, List.set_cons_succ, i64_w, i32_w]
              rfl
            refine take_ (i := 7) (N := some 41) (v := ?_) (a' := ?_) #[true, true, true, true, true, true, true, true, true, false, false, false, false] rfl rfl (take_ofW HT_.out HW_.out (by kernel_rfl)) (fun _ _ _ h => h) (Or.inl ⟨by rfl, ?_⟩) hHeld ?_ ?_
            rotate_left
            · rintro w' ⟨s0, s1, s2, s3, s4, s5, s6, s7, s8, s9, s10⟩
              (try simp only [add_plain] at s0 s1 s2 s3 s4 s5 s6 s7 s8 s9 s10)
              go_simp
              with_reducible rfl
            rotate_left
            · simp only [Act.put, List.setIfInBounds_toArray, List.set_cons_zero, List.set_cons_succ, i64_w, i32_w]
              rfl
            refine one_ (i := 9) (N := some 43) #[true, true, true, true, true, true, true, true, true, true, false, false, false] rfl rfl (one_of HT_.out (by kernel_rfl)) (by decide) (fun K hK => ?_)
            refine goes_ Try.func12 (by kernel_rfl) rfl #[.agg #[.int .i64 a0_0, .int .i64 a0_1, .int .i64 a0_2, .slice A0_3 l0_3.length c0_3], .slice Ao17 x1_2.length co17] (by rfl) rfl rfl (by (try simp only [List.map_toArray, List.map_cons, List.map_nil]); first | done | rfl | (simp only [List.length_drop, List.length_take]; rfl)) ?_
            with_reducible refine (offertoryref09_Stats.calls kj2 a0_0 a0_1 a0_2 _ _ l0_3 _ _ x1_2 t327 t330 t331 t332 t333 t334 t335 _ ?side1 ?side2 ?side3 ?side4 A14.out).mono ?_
            (case side1 => repeat (first | exact (Kd.C_below HR0_3.out HB.out) | (with_reducible refine Kd.C_alloc ?_ _) | (with_reducible refine Kd.C_drewN ?_ _) | (with_reducible refine Kd.C_drew ?_)))
            (case side2 => exact HC0_3.out)
            (case side3 => repeat (first | exact (Kd.V_reads' HO_1.out).2.2 | (with_reducible refine Kd.C_alloc ?_ _) | (with_reducible refine Kd.C_drewN ?_ _) | (with_reducible refine Kd.C_drew ?_)))
            (case side4 => exact (Kd.V_reads' HO_1.out).2.1)
            rintro e w27 ⟨v328, rfl, ho0, hb⟩
            refine ⟨_, rfl, ?_⟩
            have n0_ := Aside0.mk (Kd.V_elder' (by (with_reducible repeat (first | apply Kd.V_alloc | apply Kd.V_drewN | apply Kd.V_drew)); exact HO_1.out) (Kd.R_base ho0) hb)
            have n1_ := Aside0.mk (Kd.R_elder' (by (with_reducible repeat (first | apply Kd.R_alloc | apply Kd.R_drewN | apply Kd.R_drew)); exact HO316.out) (Kd.R_base ho0) hb)
            have n2_ := Aside0.mk (Kd.R_lower (Kd.R_new' (Kd.R_newM (M := fun k_ => (w.heap.size ≤ k_)) ho0 (below_size (by repeat (first | (with_reducible first | exact HB.out | apply below_alloc | apply pw_below_drewN | apply below_drew1 | refine below_set ?_ GE308.out | refine below_set ?_ GE324.out) | exact HB.out))) (fun k_ h_ => h_)) (Kd.R_lt (by (with_reducible repeat (first | apply Kd.R_alloc | apply Kd.R_drewN | apply Kd.R_drew)); exact HO316.out))) (below_size (by repeat (first | (with_reducible first | exact HB.out | apply below_alloc | apply pw_below_drewN | apply below_drew1 | refine below_set ?_ GE308.out | refine below_set ?_ GE324.out) | exact HB.out))))
            have n3_ := Aside0.mk (blk_below (g := gb308) (o := .cells #[.int .i64 a0_0, .int .i64 a0_1, .int .i64 a0_2, .slice A0_3 l0_3.length c0_3] 24 (0, 0)) (by (with_reducible repeat (first | refine blk_drewN ?_ _ | refine blk_drew ?_ | refine blk_alloc ?_ _)); exact BK308.out) hb)
            have n4_ := Aside0.mk (blk_below (g := gb324) (o := .cells #[.slice Ao20 t314.length co20, .int .i64 t317, .int .u64 t318, .int .u64 t319, .int .u64 t320, .int .u64 t321, .bool t322] 29 (0, 0)) (by (with_reducible repeat (first | refine blk_drewN ?_ _ | refine blk_drew ?_ | refine blk_alloc ?_ _)); exact BK324.out) hb)
            have n5_ := Aside0.mk (below_step (by repeat (first | (with_reducible first | exact HB.out | apply below_alloc | apply pw_below_drewN | apply below_drew1 | refine below_set ?_ GE308.out | refine below_set ?_ GE324.out) | exact HB.out)) hb)
            clear HO_1
            clear HO316
            clear BK308
            clear BK324
            clear HB
            have HO_1 := n0_
            have HO316 := n1_
            have HO329 := n2_
            have BK308 := n3_
            have BK324 := n4_
            have HB := n5_
            clear n0_ n1_ n2_ n3_ n4_ n5_
            (try clear hb)
            (try clear hb2)
            (try clear hk)
            (try clear hi)
            (try clear ho0)
            obtain ⟨Ao28, co28, eo28⟩ := Kd.R_slice HO329.out
            (first | subst eo28 | (injection eo28 with f1_ f2_ f3_; have f4_ := f1_.symm; have f5_ := f3_.symm; clear f1_ f2_ f3_; subst f4_; subst f5_))
            refine hK.out _ _ ⟨(blk_cell BK324.out 0).trans rfl, (blk_cell BK324.out 1).trans rfl, (blk_cell BK324.out 2).trans rfl, (blk_cell BK324.out 3).trans rfl, (blk_cell BK324.out 4).trans rfl, (blk_cell BK324.out 5).trans rfl, (blk_cell BK324.out 6).trans rfl, (blk_cell BK308.out 0).trans rfl, (blk_cell BK308.out 1).trans rfl, (blk_cell BK308.out 2).trans rfl, (blk_cell BK308.out 3).trans rfl⟩ (fun hHeld => ?_)
            clear hK K
            refine norm_ (a' := ?_) ?_ ?_
            rotate_left
            · show Act.put _ (some 43) _ = _
              simp only [Act.put, List.setIfInBounds_toArray, List.set_cons_zero, List.set_cons_succ, i64_w, i32_w]
              rfl
            refine one_ (i := 10) (N := some 44) #[true, true, true, true, true, true, true, true, true, true, true, false, false] rfl rfl (one_of HT_.out (by kernel_rfl)) (by decide) (fun K hK => ?_)
            refine goes_ Try.func11 (by kernel_rfl) rfl #[.agg #[.slice Ao20 t314.length co20, .int .i64 t317, .int .u64 t318, .int .u64 t319, .int .u64 t320, .int .u64 t321, .bool t322], .agg #[.slice Ao28 t327.length co28, .int .i64 t330, .int .u64 t331, .int .u64 t332, .int .u64 t333, .int .u64 t334, .bool t335]] (by rfl) rfl rfl (by (try simp only [List.map_toArray, List.map_cons, List.map_nil]); first | done | rfl | (simp only [List.length_drop, List.length_take]; rfl)) ?_
            with_reducible refine (offertoryref09_Same.calls kj2 _ _ t314 t317 t318 t319 t320 t321 t322 _ _ t327 t330 t331 t332 t333 t334 t335 t336 _ ?side1 ?side2 ?side3 ?side4 A15.out).mono ?_
            (case side1 => repeat (first | exact (Kd.R_reads' HO316.out).2.2 | (with_reducible refine Kd.C_alloc ?_ _) | (with_reducible refine Kd.C_drewN ?_ _) | (with_reducible refine Kd.C_drew ?_)))
            (case side2 => exact (Kd.R_reads' HO316.out).2.1)
            (case side3 => repeat (first | exact (Kd.R_reads' HO329.out).2.2 | (with_reducible refine Kd.C_alloc ?_ _) | (with_reducible refine Kd.C_drewN ?_ _) | (with_reducible refine Kd.C_drew ?_)))
            (case side4 => exact (Kd.R_reads' HO329.out).2.1)
            rintro e w29 ⟨rfl, hb⟩
            refine ⟨_, rfl, ?_⟩
            have n0_ := Aside0.mk (Kd.V_below (by (with_reducible repeat (first | apply Kd.V_alloc | apply Kd.V_drewN | apply Kd.V_drew)); exact HO_1.out) hb)
            have n1_ := Aside0.mk (Kd.R_below (by (with_reducible repeat (first | apply Kd.R_alloc | apply Kd.R_drewN | apply Kd.R_drew)); exact HO316.out) hb)
            have n2_ := Aside0.mk (Kd.R_below (by (with_reducible repeat (first | apply Kd.R_alloc | apply Kd.R_drewN | apply Kd.R_drew)); exact HO329.out) hb)
            have n3_ := Aside0.mk (blk_below (g := gb308) (o := .cells #[.int .i64 a0_0, .int .i64 a0_1, .int .i64 a0_2, .slice A0_3 l0_3.length c0_3] 24 (0, 0)) (by (with_reducible repeat (first | refine blk_drewN ?_ _ | refine blk_drew ?_ | refine blk_alloc ?_ _)); exact BK308.out) hb)
            have n4_ := Aside0.mk (blk_below (g := gb324) (o := .cells #[.slice Ao20 t314.length co20, .int .i64 t317, .int .u64 t318, .int .u64 t319, .int .u64 t320, .int .u64 t321, .bool t322] 29 (0, 0)) (by (with_reducible repeat (first | refine blk_drewN ?_ _ | refine blk_drew ?_ | refine blk_alloc ?_ _)); exact BK324.out) hb)
            have n5_ := Aside0.mk (below_step (by repeat (first | (with_reducible first | exact HB.out | apply below_alloc | apply pw_below_drewN | apply below_drew1 | refine below_set ?_ GE308.out | refine below_set ?_ GE324.out) | exact HB.out)) hb)
            clear HO_1
            clear HO316
            clear HO329
            clear BK308
            clear BK324
            clear HB
            have HO_1 := n0_
            have HO316 := n1_
            have HO329 := n2_
            have BK308 := n3_
            have BK324 := n4_
            have HB := n5_
            clear n0_ n1_ n2_ n3_ n4_ n5_
            (try clear hb)
            (try clear hb2)
            (try clear hk)
            (try clear hi)
            refine hK.out _ _ ⟨(blk_cell BK324.out 0).trans rfl, (blk_cell BK324.out 1).trans rfl, (blk_cell BK324.out 2).trans rfl, (blk_cell BK324.out 3).trans rfl, (blk_cell BK324.out 4).trans rfl, (blk_cell BK324.out 5).trans rfl, (blk_cell BK324.out 6).trans rfl, (blk_cell BK308.out 0).trans rfl, (blk_cell BK308.out 1).trans rfl, (blk_cell BK308.out 2).trans rfl, (blk_cell BK308.out 3).trans rfl⟩ (fun hHeld => ?_)
            clear hK K
            refine norm_ (a' := ?_) ?_ ?_
            rotate_left
            · show Act.put _ (some 44) _ = _
              simp only [Act.put, List.setIfInBounds_toArray, List.set_cons_zero, List.set_cons_succ, i64_w, i32_w]
              rfl
            refine pure_ (i := 11) (N := some 45) (v := ?_) (a' := ?_) #[true, true, true, true, true, true, true, true, true, true, true, true, false] rfl rfl (any_of HT_.out (by kernel_rfl)) (fun _ _ _ h => h) (Or.inl ⟨by rfl, ?_⟩) ?_ ?_
            rotate_left
            · intro w'
              (try simp only [add_plain] at s0 s1 s2 s3 s4 s5 s6 s7 s8 s9 s10)
              go_simp
              with_reducible rfl
            rotate_left
            · simp only [Act.put, List.setIfInBounds_toArray, List.set_cons_zero, List.set_cons_succ, i64_w, i32_w]
              rfl
            refine pure_ (i := 12) (N := some 4) (v := ?_) (a' := ?_) #[true, true, true, true, true, true, true, true, true, true, true, true, true] rfl rfl (any_of HT_.out (by kernel_rfl)) (fun _ _ _ h => h) (Or.inl ⟨by rfl, ?_⟩) ?_ ?_
            rotate_left
            · intro w'
              (try simp only [add_plain] at s0 s1 s2 s3 s4 s5 s6 s7 s8 s9 s10)
              go_simp
              with_reducible rfl
            rotate_left
            · simp only [Act.put, List.setIfInBounds_toArray, List.set_cons_zero, List.set_cons_succ, i64_w, i32_w]
              rfl
            refine done_ (done_of HT_.out (by kernel_rfl)) ?_
            try go_wp2
            go_ret
            exact ⟨by first | rfl | (simp [errW_none, errW_some] <;> rfl) | (simp [*, errW_none, errW_some] <;> rfl), by repeat (first | (with_reducible first | exact HB.out | apply below_alloc | apply pw_below_drewN | apply below_drew1 | refine below_set ?_ GE308.out | refine below_set ?_ GE324.out) | exact HB.out)⟩
          · rw [if_neg c13] at H
            exact absurd H (by simp)
        · replace c12 := Bool.eq_false_iff.mpr c12
          subst c12
          have H1 : (none) = some r := by rw [if_neg (show ¬ (false = true) by decide)] at H; exact H
          clear H
          have H := H1
          clear H1
          exact absurd H (by simp)
      · rw [if_neg c10] at H
        have c10b0 : (t325 == 0) = false := beq_eq_false_iff_ne.mpr c10
        have c10b1 : (t325 != 0) = true := bne_iff_ne.mpr c10
        replace H := Option.bind_eq_some_iff.mp H
        obtain ⟨t337, A300, H⟩ := H
        replace H : (if t337 = true then (if t323 = t325 then ((offertoryref09_Same.f kj2 t314 t317 t318 t319 t320 t321 t322 ([] : List Int) 0 0 0 0 0 false).bind fun t338 => (some t338)) else (none)) else (none)) = some r := H
        have A30 := Aside0.mk A300
        clear A300
        by_cases c31 : t337 = true
        · subst c31
          have H1 : (if t323 = t325 then ((offertoryref09_Same.f kj2 t314 t317 t318 t319 t320 t321 t322 ([] : List Int) 0 0 0 0 0 false).bind fun t338 => (some t338)) else (none)) = some r := by rw [if_pos rfl] at H; exact H
          clear H
          have H := H1
          clear H1
          by_cases c32 : t323 = t325
          · rw [if_pos c32] at H
            have c32b0 : (t323 == t325) = true := beq_iff_eq.mpr c32
            have c32b1 : (t323 != t325) = false := bne_eq_false_iff_eq.mpr c32
            clear c32
            replace H := Option.bind_eq_some_iff.mp H
            obtain ⟨t338, A330, H⟩ := H
            replace H : (some t338) = some r := H
            have A33 := Aside0.mk A330
            clear A330
            obtain rfl := Option.some.inj H
            have hcz34_0 : wc.cell? ⟨gb308, 0, none⟩ = some (.int .i64 a0_0) := (blk_cell BK308.out 0).trans rfl
            have hcz34_1 : wc.cell? ⟨gb308, 1, none⟩ = some (.int .i64 a0_1) := (blk_cell BK308.out 1).trans rfl
            have hcz34_2 : wc.cell? ⟨gb308, 2, none⟩ = some (.int .i64 a0_2) := (blk_cell BK308.out 2).trans rfl
            have hcz34_3 : wc.cell? ⟨gb308, 3, none⟩ = some (.slice A0_3 l0_3.length c0_3) := (blk_cell BK308.out 3).trans rfl
            have hfz34_0 := blk_frozen BK308.out 0
            have hfz34_1 := blk_frozen BK308.out 1
            have hfz34_2 := blk_frozen BK308.out 2
            have hfz34_3 := blk_frozen BK308.out 3
            obtain ⟨Ao35, co35, eo35⟩ := Kd.V_slice HO_1.out
            subst eo35
            go_wp2_with (first | ((with_reducible refine gate_callee (f := 8) rfl ?_); refine goesL_ (some 16) rfl rfl Try.func8 (by kernel_rfl) rfl #[.agg #[.int .i64 a0_0, .int .i64 a0_1, .int .i64 a0_2, .slice A0_3 l0_3.length c0_3], .slice Ao35 x1_2.length co35] rfl (by (try simp only [List.map_toArray, List.map_cons, List.map_nil]); first | done | rfl | (simp only [List.length_drop, List.length_take]; rfl)) ?_; (with_reducible refine (stats_Of.calls kj2 a0_0 a0_1 a0_2 _ _ l0_3 _ _ x1_2 t314 t317 t318 t319 t320 t321 t322 t323 _ ?side1 ?side2 ?side3 ?side4 A8.out).mono ?_); (case side1 => repeat (first | exact (Kd.C_below HR0_3.out HB.out) | (with_reducible refine Kd.C_alloc ?_ _) | (with_reducible refine Kd.C_drewN ?_ _) | (with_reducible refine Kd.C_drew ?_))); (case side2 => exact HC0_3.out); (case side3 => repeat (first | exact (Kd.V_reads' HO_1.out).2.2 | (with_reducible refine Kd.C_alloc ?_ _) | (with_reducible refine Kd.C_drewN ?_ _) | (with_reducible refine Kd.C_drew ?_))); (case side4 => exact (Kd.V_reads' HO_1.out).2.1); rintro e w36 ⟨v315, rfl, ho0, hb⟩; refine ⟨_, rfl, ?_⟩; have n0_ := Aside0.mk (Kd.V_elder' (by (with_reducible repeat (first | apply Kd.V_alloc | apply Kd.V_drewN | apply Kd.V_drew)); exact HO_1.out) (Kd.R_base ho0) hb); have n1_ := Aside0.mk (Kd.R_lower (Kd.R_newM (M := fun k_ => (w.heap.size ≤ k_)) ho0 (below_size (by repeat (first | (with_reducible first | exact HB.out | apply below_alloc | apply pw_below_drewN | apply below_drew1 | refine below_set ?_ GE308.out) | exact HB.out))) (fun k_ h_ => h_)) (below_size (by repeat (first | (with_reducible first | exact HB.out | apply below_alloc | apply pw_below_drewN | apply below_drew1 | refine below_set ?_ GE308.out) | exact HB.out)))); have n2_ := Aside0.mk (blk_below (g := gb308) (o := .cells #[.int .i64 a0_0, .int .i64 a0_1, .int .i64 a0_2, .slice A0_3 l0_3.length c0_3] 24 (0, 0)) (by (with_reducible repeat (first | refine blk_drewN ?_ _ | refine blk_drew ?_ | refine blk_alloc ?_ _)); exact BK308.out) hb); have n3_ := Aside0.mk (below_step (by repeat (first | (with_reducible first | exact HB.out | apply below_alloc | apply pw_below_drewN | apply below_drew1 | refine below_set ?_ GE308.out) | exact HB.out)) hb); clear HO_1; clear BK308; clear HB; have HO_1 := n0_; have HO316 := n1_; have BK308 := n2_; have HB := n3_; clear n0_ n1_ n2_ n3_; (try clear hb); (try clear hb2); (try clear hk); (try clear hi); (try clear ho0)) | ((with_reducible refine gate_dst (N := 5) rfl ?_); refine box_event ?hg (N := 5) ?hd (cs := #[.slice none 0 0, .int .i64 0, .int .u64 0, .int .u64 0, .int .u64 0, .int .u64 0, .bool false]) (t := 29) ?hr ?_; (case hd => rfl); (case hg => rfl); (case hr => first | (go_simp; done) | (go_simp; rfl)); intro gb324 hg w37 hbox hb; have n0_ := Aside0.mk (Kd.V_below (Kd.V_elderB (by (with_reducible repeat (first | apply Kd.V_alloc | apply Kd.V_drewN | apply Kd.V_drew)); exact HO_1.out) gb324 (Nat.le_of_eq hg.symm)) hb); have n1_ := Aside0.mk (Kd.R_below (by (with_reducible repeat (first | apply Kd.R_alloc | apply Kd.R_drewN | apply Kd.R_drew)); exact HO316.out) hb); have n2_ := Aside0.mk (blk_below (g := gb308) (o := .cells #[.int .i64 a0_0, .int .i64 a0_1, .int .i64 a0_2, .slice A0_3 l0_3.length c0_3] 24 (0, 0)) (by (with_reducible repeat (first | refine blk_drewN ?_ _ | refine blk_drew ?_ | refine blk_alloc ?_ _)); exact BK308.out) hb); have n3_ := Aside0.mk (below_step (by repeat (first | (with_reducible first | exact HB.out | apply below_alloc | apply pw_below_drewN | apply below_drew1 | refine below_set ?_ GE308.out) | exact HB.out)) hb); have n4_ := Aside0.mk (hbox); have n5_ := Aside0.mk ((by rw [hg]; exact (below_size (by repeat (first | (with_reducible first | exact HB.out | apply below_alloc | apply pw_below_drewN | apply below_drew1 | refine below_set ?_ GE308.out) | exact HB.out))) : w.heap.size ≤ gb324)); have n6_ := Aside0.mk ((by rw [hg]; exact (below_size (by repeat (first | (with_reducible first | exact HB.out | apply below_alloc | apply pw_below_drewN | apply below_drew1 | refine below_set ?_ GE308.out) | exact HB.out))) : w.heap.size ≤ gb324)); have n7_ := Aside0.mk ((by rw [hg]; exact Nat.ne_of_lt (blk_lt (g := gb308) (o := .cells #[.int .i64 a0_0, .int .i64 a0_1, .int .i64 a0_2, .slice A0_3 l0_3.length c0_3] 24 (0, 0)) (by (with_reducible repeat (first | refine blk_drewN ?_ _ | refine blk_drew ?_ | refine blk_alloc ?_ _)); exact BK308.out)) : gb308 ≠ gb324)); have n8_ := Aside0.mk ((by rw [hg]; exact Nat.ne_of_gt (blk_lt (g := gb308) (o := .cells #[.int .i64 a0_0, .int .i64 a0_1, .int .i64 a0_2, .slice A0_3 l0_3.length c0_3] 24 (0, 0)) (by (with_reducible repeat (first | refine blk_drewN ?_ _ | refine blk_drew ?_ | refine blk_alloc ?_ _)); exact BK308.out)) : gb324 ≠ gb308)); clear HO_1; clear HO316; clear BK308; clear HB; have HO_1 := n0_; have HO316 := n1_; have BK308 := n2_; have HB := n3_; have BK324 := n4_; have GW324 := n5_; have GE324 := n6_; have NB308_324 := n7_; have NB324_308 := n8_; clear n0_ n1_ n2_ n3_ n4_ n5_ n6_ n7_ n8_; clear hb hbox hg; obtain ⟨Ao38, co38, eo38⟩ := Kd.R_slice HO316.out; subst eo38; have hnb39 := NB324_308.out; have hnc39 := NB308_324.out; have hcz40_0 : w37.cell? ⟨gb324, 0, none⟩ = some (.slice none 0 0) := (blk_cell BK324.out 0).trans rfl; have hcz40_1 : w37.cell? ⟨gb324, 1, none⟩ = some (.int .i64 0) := (blk_cell BK324.out 1).trans rfl; have hcz40_2 : w37.cell? ⟨gb324, 2, none⟩ = some (.int .u64 0) := (blk_cell BK324.out 2).trans rfl; have hcz40_3 : w37.cell? ⟨gb324, 3, none⟩ = some (.int .u64 0) := (blk_cell BK324.out 3).trans rfl; have hcz40_4 : w37.cell? ⟨gb324, 4, none⟩ = some (.int .u64 0) := (blk_cell BK324.out 4).trans rfl; have hcz40_5 : w37.cell? ⟨gb324, 5, none⟩ = some (.int .u64 0) := (blk_cell BK324.out 5).trans rfl; have hcz40_6 : w37.cell? ⟨gb324, 6, none⟩ = some (.bool false) := (blk_cell BK324.out 6).trans rfl; have hfz40_0 := blk_frozen BK324.out 0; have hfz40_1 := blk_frozen BK324.out 1; have hfz40_2 := blk_frozen BK324.out 2; have hfz40_3 := blk_frozen BK324.out 3; have hfz40_4 := blk_frozen BK324.out 4; have hfz40_5 := blk_frozen BK324.out 5; have hfz40_6 := blk_frozen BK324.out 6; have hcz41_0 : w37.cell? ⟨gb308, 0, none⟩ = some (.int .i64 a0_0) := (blk_cell BK308.out 0).trans rfl; have hcz41_1 : w37.cell? ⟨gb308, 1, none⟩ = some (.int .i64 a0_1) := (blk_cell BK308.out 1).trans rfl; have hcz41_2 : w37.cell? ⟨gb308, 2, none⟩ = some (.int .i64 a0_2) := (blk_cell BK308.out 2).trans rfl; have hcz41_3 : w37.cell? ⟨gb308, 3, none⟩ = some (.slice A0_3 l0_3.length c0_3) := (blk_cell BK308.out 3).trans rfl; have hfz41_0 := blk_frozen BK308.out 0; have hfz41_1 := blk_frozen BK308.out 1; have hfz41_2 := blk_frozen BK308.out 2; have hfz41_3 := blk_frozen BK308.out 3) | ((with_reducible refine gate_callee (f := 9) rfl ?_); refine goesL_ (some 20) rfl rfl Try.func9 (by kernel_rfl) rfl #[.agg #[.int .i64 a0_0, .int .i64 a0_1, .int .i64 a0_2, .slice A0_3 l0_3.length c0_3]] rfl (by (try simp only [List.map_toArray, List.map_cons, List.map_nil]); first | done | rfl | (simp only [List.length_drop, List.length_take]; rfl)) ?_; (with_reducible refine (offertoryref09_Sound.calls kj2 a0_0 a0_1 a0_2 _ _ l0_3 t325 _ ?side1 ?side2 A9.out).mono ?_); (case side1 => exact Kd.C_below HR0_3.out (by repeat (first | (with_reducible first | exact HB.out | apply below_alloc | apply pw_below_drewN | apply below_drew1 | refine below_set ?_ GE308.out | refine below_set ?_ GE324.out) | exact HB.out))); (case side2 => exact HC0_3.out); rintro e w42 ⟨rfl, hb⟩; refine ⟨_, rfl, ?_⟩; have n0_ := Aside0.mk (Kd.V_below (by (with_reducible repeat (first | apply Kd.V_alloc | apply Kd.V_drewN | apply Kd.V_drew)); exact (Kd.V_mono (Kd.V_far (p := ⟨gb324, 6, none⟩) (Kd.V_far (p := ⟨gb324, 5, none⟩) (Kd.V_far (p := ⟨gb324, 4, none⟩) (Kd.V_far (p := ⟨gb324, 3, none⟩) (Kd.V_far (p := ⟨gb324, 2, none⟩) (Kd.V_far (p := ⟨gb324, 1, none⟩) (Kd.V_far (p := ⟨gb324, 0, none⟩) (Kd.V_mono HO_1.out (fun k_ hk => (⟨hk, hk.2⟩ : _ ∧ k_ ≠ gb324))) (fun _ hk => hk.2) (.slice Ao38 t314.length co38)) (fun _ hk => hk.2) (.int .i64 t317)) (fun _ hk => hk.2) (.int .u64 t318)) (fun _ hk => hk.2) (.int .u64 t319)) (fun _ hk => hk.2) (.int .u64 t320)) (fun _ hk => hk.2) (.int .u64 t321)) (fun _ hk => hk.2) (.bool t322)) (fun _ h_ => h_.1))) hb); have n1_ := Aside0.mk (Kd.R_below (by (with_reducible repeat (first | apply Kd.R_alloc | apply Kd.R_drewN | apply Kd.R_drew)); exact (Kd.R_mono (Kd.R_far (p := ⟨gb324, 6, none⟩) (Kd.R_far (p := ⟨gb324, 5, none⟩) (Kd.R_far (p := ⟨gb324, 4, none⟩) (Kd.R_far (p := ⟨gb324, 3, none⟩) (Kd.R_far (p := ⟨gb324, 2, none⟩) (Kd.R_far (p := ⟨gb324, 1, none⟩) (Kd.R_far (p := ⟨gb324, 0, none⟩) (Kd.R_types HO316.out BK324.out (by decide)) (fun _ hk => hk.2) (.slice Ao38 t314.length co38)) (fun _ hk => hk.2) (.int .i64 t317)) (fun _ hk => hk.2) (.int .u64 t318)) (fun _ hk => hk.2) (.int .u64 t319)) (fun _ hk => hk.2) (.int .u64 t320)) (fun _ hk => hk.2) (.int .u64 t321)) (fun _ hk => hk.2) (.bool t322)) (fun _ h_ => h_.1))) hb); have n2_ := Aside0.mk (blk_below (g := gb308) (o := .cells #[.int .i64 a0_0, .int .i64 a0_1, .int .i64 a0_2, .slice A0_3 l0_3.length c0_3] 24 (0, 0)) (by (with_reducible repeat (first | refine blk_drewN ?_ _ | refine blk_drew ?_ | refine blk_alloc ?_ _)); refine blk_far ?_ NB308_324.out _; (with_reducible repeat (first | refine blk_drewN ?_ _ | refine blk_drew ?_ | refine blk_alloc ?_ _)); refine blk_far ?_ NB308_324.out _; (with_reducible repeat (first | refine blk_drewN ?_ _ | refine blk_drew ?_ | refine blk_alloc ?_ _)); refine blk_far ?_ NB308_324.out _; (with_reducible repeat (first | refine blk_drewN ?_ _ | refine blk_drew ?_ | refine blk_alloc ?_ _)); refine blk_far ?_ NB308_324.out _; (with_reducible repeat (first | refine blk_drewN ?_ _ | refine blk_drew ?_ | refine blk_alloc ?_ _)); refine blk_far ?_ NB308_324.out _; (with_reducible repeat (first | refine blk_drewN ?_ _ | refine blk_drew ?_ | refine blk_alloc ?_ _)); refine blk_far ?_ NB308_324.out _; (with_reducible repeat (first | refine blk_drewN ?_ _ | refine blk_drew ?_ | refine blk_alloc ?_ _)); refine blk_far ?_ NB308_324.out _; (with_reducible repeat (first | refine blk_drewN ?_ _ | refine blk_drew ?_ | refine blk_alloc ?_ _)); exact BK308.out) hb); have n3_ := Aside0.mk (blk_below (g := gb324) (o := .cells #[.slice Ao38 t314.length co38, .int .i64 t317, .int .u64 t318, .int .u64 t319, .int .u64 t320, .int .u64 t321, .bool t322] 29 (0, 0)) (by (with_reducible repeat (first | refine blk_drewN ?_ _ | refine blk_drew ?_ | refine blk_alloc ?_ _)); refine blk_put (cs := #[.slice Ao38 t314.length co38, .int .i64 t317, .int .u64 t318, .int .u64 t319, .int .u64 t320, .int .u64 t321, .bool false]) ?_ 6 _ rfl; (with_reducible repeat (first | refine blk_drewN ?_ _ | refine blk_drew ?_ | refine blk_alloc ?_ _)); refine blk_put (cs := #[.slice Ao38 t314.length co38, .int .i64 t317, .int .u64 t318, .int .u64 t319, .int .u64 t320, .int .u64 0, .bool false]) ?_ 5 _ rfl; (with_reducible repeat (first | refine blk_drewN ?_ _ | refine blk_drew ?_ | refine blk_alloc ?_ _)); refine blk_put (cs := #[.slice Ao38 t314.length co38, .int .i64 t317, .int .u64 t318, .int .u64 t319, .int .u64 0, .int .u64 0, .bool false]) ?_ 4 _ rfl; (with_reducible repeat (first | refine blk_drewN ?_ _ | refine blk_drew ?_ | refine blk_alloc ?_ _)); refine blk_put (cs := #[.slice Ao38 t314.length co38, .int .i64 t317, .int .u64 t318, .int .u64 0, .int .u64 0, .int .u64 0, .bool false]) ?_ 3 _ rfl; (with_reducible repeat (first | refine blk_drewN ?_ _ | refine blk_drew ?_ | refine blk_alloc ?_ _)); refine blk_put (cs := #[.slice Ao38 t314.length co38, .int .i64 t317, .int .u64 0, .int .u64 0, .int .u64 0, .int .u64 0, .bool false]) ?_ 2 _ rfl; (with_reducible repeat (first | refine blk_drewN ?_ _ | refine blk_drew ?_ | refine blk_alloc ?_ _)); refine blk_put (cs := #[.slice Ao38 t314.length co38, .int .i64 0, .int .u64 0, .int .u64 0, .int .u64 0, .int .u64 0, .bool false]) ?_ 1 _ rfl; (with_reducible repeat (first | refine blk_drewN ?_ _ | refine blk_drew ?_ | refine blk_alloc ?_ _)); refine blk_put (cs := #[.slice none 0 0, .int .i64 0, .int .u64 0, .int .u64 0, .int .u64 0, .int .u64 0, .bool false]) ?_ 0 _ rfl; (with_reducible repeat (first | refine blk_drewN ?_ _ | refine blk_drew ?_ | refine blk_alloc ?_ _)); exact BK324.out) hb); have n4_ := Aside0.mk (below_step (by repeat (first | (with_reducible first | exact HB.out | apply below_alloc | apply pw_below_drewN | apply below_drew1 | refine below_set ?_ GE308.out | refine below_set ?_ GE324.out) | exact HB.out)) hb); clear HO_1; clear HO316; clear BK308; clear BK324; clear HB; have HO_1 := n0_; have HO316 := n1_; have BK308 := n2_; have BK324 := n3_; have HB := n4_; clear n0_ n1_ n2_ n3_ n4_; (try clear hb); (try clear hb2); (try clear hk); (try clear hi)) | ((with_reducible refine gate_callee (f := 10) rfl ?_); refine goesL_ (some 23) rfl rfl Try.func10 (by kernel_rfl) rfl #[] rfl (by (try simp only [List.map_toArray, List.map_cons, List.map_nil]); first | done | rfl | (simp only [List.length_drop, List.length_take]; rfl)) ?_; (with_reducible refine (offertorylaw13_awake.calls kj2  true _ A30.out).mono ?_); rintro e w43 ⟨rfl, hb⟩; refine ⟨_, rfl, ?_⟩; have n0_ := Aside0.mk (Kd.V_below (by (with_reducible repeat (first | apply Kd.V_alloc | apply Kd.V_drewN | apply Kd.V_drew)); exact HO_1.out) hb); have n1_ := Aside0.mk (Kd.R_below (by (with_reducible repeat (first | apply Kd.R_alloc | apply Kd.R_drewN | apply Kd.R_drew)); exact HO316.out) hb); have n2_ := Aside0.mk (blk_below (g := gb308) (o := .cells #[.int .i64 a0_0, .int .i64 a0_1, .int .i64 a0_2, .slice A0_3 l0_3.length c0_3] 24 (0, 0)) (by (with_reducible repeat (first | refine blk_drewN ?_ _ | refine blk_drew ?_ | refine blk_alloc ?_ _)); exact BK308.out) hb); have n3_ := Aside0.mk (blk_below (g := gb324) (o := .cells #[.slice Ao38 t314.length co38, .int .i64 t317, .int .u64 t318, .int .u64 t319, .int .u64 t320, .int .u64 t321, .bool t322] 29 (0, 0)) (by (with_reducible repeat (first | refine blk_drewN ?_ _ | refine blk_drew ?_ | refine blk_alloc ?_ _)); exact BK324.out) hb); have n4_ := Aside0.mk (below_step (by repeat (first | (with_reducible first | exact HB.out | apply below_alloc | apply pw_below_drewN | apply below_drew1 | refine below_set ?_ GE308.out | refine below_set ?_ GE324.out) | exact HB.out)) hb); clear HO_1; clear HO316; clear BK308; clear BK324; clear HB; have HO_1 := n0_; have HO316 := n1_; have BK308 := n2_; have BK324 := n3_; have HB := n4_; clear n0_ n1_ n2_ n3_ n4_; (try clear hb); (try clear hb2); (try clear hk); (try clear hi); have hcz44_0 : w43.cell? ⟨gb324, 0, none⟩ = some (.slice Ao38 t314.length co38) := (blk_cell BK324.out 0).trans rfl; have hcz44_1 : w43.cell? ⟨gb324, 1, none⟩ = some (.int .i64 t317) := (blk_cell BK324.out 1).trans rfl; have hcz44_2 : w43.cell? ⟨gb324, 2, none⟩ = some (.int .u64 t318) := (blk_cell BK324.out 2).trans rfl; have hcz44_3 : w43.cell? ⟨gb324, 3, none⟩ = some (.int .u64 t319) := (blk_cell BK324.out 3).trans rfl; have hcz44_4 : w43.cell? ⟨gb324, 4, none⟩ = some (.int .u64 t320) := (blk_cell BK324.out 4).trans rfl; have hcz44_5 : w43.cell? ⟨gb324, 5, none⟩ = some (.int .u64 t321) := (blk_cell BK324.out 5).trans rfl; have hcz44_6 : w43.cell? ⟨gb324, 6, none⟩ = some (.bool t322) := (blk_cell BK324.out 6).trans rfl; have hfz44_0 := blk_frozen BK324.out 0; have hfz44_1 := blk_frozen BK324.out 1; have hfz44_2 := blk_frozen BK324.out 2; have hfz44_3 := blk_frozen BK324.out 3; have hfz44_4 := blk_frozen BK324.out 4; have hfz44_5 := blk_frozen BK324.out 5; have hfz44_6 := blk_frozen BK324.out 6) | (go_at_call 11; (refine (offertoryref09_Same.calls kj2 _ _ t314 t317 t318 t319 t320 t321 t322 _ _ ([] : List Int) 0 0 0 0 0 false t338 _ ?side1 ?side2 ?side3 ?side4 A33.out).mono ?_); (case side1 => repeat (first | exact (Kd.R_reads' HO316.out).2.2 | (with_reducible refine Kd.C_alloc ?_ _) | (with_reducible refine Kd.C_drewN ?_ _) | (with_reducible refine Kd.C_drew ?_))); (case side2 => exact (Kd.R_reads' HO316.out).2.1); (case side3 => exact Kd.C_nil _ _); (case side4 => exact Nat.le_refl _); rintro e w45 ⟨rfl, hb⟩; have n0_ := Aside0.mk (Kd.V_below (by (with_reducible repeat (first | apply Kd.V_alloc | apply Kd.V_drewN | apply Kd.V_drew)); exact HO_1.out) hb); have n1_ := Aside0.mk (Kd.R_below (by (with_reducible repeat (first | apply Kd.R_alloc | apply Kd.R_drewN | apply Kd.R_drew)); exact HO316.out) hb); have n2_ := Aside0.mk (blk_below (g := gb308) (o := .cells #[.int .i64 a0_0, .int .i64 a0_1, .int .i64 a0_2, .slice A0_3 l0_3.length c0_3] 24 (0, 0)) (by (with_reducible repeat (first | refine blk_drewN ?_ _ | refine blk_drew ?_ | refine blk_alloc ?_ _)); exact BK308.out) hb); have n3_ := Aside0.mk (blk_below (g := gb324) (o := .cells #[.slice Ao38 t314.length co38, .int .i64 t317, .int .u64 t318, .int .u64 t319, .int .u64 t320, .int .u64 t321, .bool t322] 29 (0, 0)) (by (with_reducible repeat (first | refine blk_drewN ?_ _ | refine blk_drew ?_ | refine blk_alloc ?_ _)); exact BK324.out) hb); have n4_ := Aside0.mk (below_step (by repeat (first | (with_reducible first | exact HB.out | apply below_alloc | apply pw_below_drewN | apply below_drew1 | refine below_set ?_ GE308.out | refine below_set ?_ GE324.out) | exact HB.out)) hb); clear HO_1; clear HO316; clear BK308; clear BK324; clear HB; have HO_1 := n0_; have HO316 := n1_; have BK308 := n2_; have BK324 := n3_; have HB := n4_; clear n0_ n1_ n2_ n3_ n4_; (try clear hb); (try clear hb2); (try clear hk); (try clear hi)))
            go_ret
            exact ⟨by first | rfl | (simp [errW_none, errW_some] <;> rfl) | (simp [*, errW_none, errW_some] <;> rfl), by repeat (first | (with_reducible first | exact HB.out | apply below_alloc | apply pw_below_drewN | apply below_drew1 | refine below_set ?_ GE308.out | refine below_set ?_ GE324.out) | exact HB.out)⟩
          · rw [if_neg c32] at H
            exact absurd H (by simp)
        · replace c31 := Bool.eq_false_iff.mpr c31
          subst c31
          have H1 : (none) = some r := by rw [if_neg (show ¬ (false = true) by decide)] at H; exact H
          clear H
          have H := H1
          clear H1
          exact absurd H (by simp)

/-! ### offertoryref09_Bits: function 39 -/
def offertoryref09_Bits.l0 : Nat → Int → Int → Int → Int → List Int → Option (Int)
  | 0, _, _, _, _, _ => none
  | k + 1, x3, x340000, x340001, x340002, x340003 => if 0 ≤ (IntKind.u64.wrap (x3)) then (if (wrap64 (x340001 - x340000)) ≥ (shl .i64 1 (IntKind.u64.wrap (x3))) then (offertoryref09_Bits.l0 k (wrap64 (x3 + 1)) x340000 x340001 x340002 x340003) else (some x3)) else (none)
def offertoryref09_Bits.f (k : Nat) (a0_0 : Int) (a0_1 : Int) (a0_2 : Int) (l0_3 : List Int) : Option (Int) := offertoryref09_Bits.l0 k 1 a0_0 a0_1 a0_2 l0_3
theorem offertoryref09_Bits.mono_l : ∀ k, (∀ y0 y1 y2 y3 y4, LeO (offertoryref09_Bits.l0 k y0 y1 y2 y3 y4) (offertoryref09_Bits.l0 (k + 1) y0 y1 y2 y3 y4))
  | 0 => fun _ _ _ _ _ r h => by simp [offertoryref09_Bits.l0] at h
  | k + 1 => by
    have ih0 := offertoryref09_Bits.mono_l k
    · intro y0 y1 y2 y3 y4
      unfold offertoryref09_Bits.l0
      repeat' first
      | (with_reducible exact ih0 _ _ _ _ _)
      | (with_reducible exact LeO.refl _)
      | (with_reducible exact LeO.none _)
      | (with_reducible refine LeO.ite ?_ ?_)
      | (with_reducible refine LeO.bind ?_ (fun _ => ?_))
      | exact ih0 _ _ _ _ _
      | exact LeO.none _
      | refine LeO.ite ?_ ?_
      | refine LeO.bind ?_ (fun _ => ?_)
theorem offertoryref09_Bits.mono : ∀ a0 a1 a2 a3 k, LeO (offertoryref09_Bits.f k a0 a1 a2 a3) (offertoryref09_Bits.f (k + 1) a0 a1 a2 a3) := by
  intro a0 a1 a2 a3 k
  have ih0 := offertoryref09_Bits.mono_l k
  unfold offertoryref09_Bits.f
  repeat' first
      | (with_reducible exact ih0 _ _ _ _ _)
      | (with_reducible exact LeO.refl _)
      | (with_reducible exact LeO.none _)
      | (with_reducible refine LeO.ite ?_ ?_)
      | (with_reducible refine LeO.bind ?_ (fun _ => ?_))
      | exact ih0 _ _ _ _ _
      | exact LeO.none _
      | refine LeO.ite ?_ ?_
      | refine LeO.bind ?_ (fun _ => ?_)
set_option maxHeartbeats 8000000 in
set_option maxRecDepth 100000 in
theorem offertoryref09_Bits.calls (k : Nat) (a0_0 : Int) (a0_1 : Int) (a0_2 : Int) (A0_3 : Option Addr) (c0_3 : Nat) (l0_3 : List Int) (r : Int) (w : World) (hr0_3 : Kd.C (Kd.int .i64) w A0_3 l0_3.length l0_3) (hc0_3 : l0_3.length ≤ c0_3) (h : offertoryref09_Bits.f k a0_0 a0_1 a0_2 l0_3 = some r) :
    Calls Try.prog 39 #[.agg #[.int .i64 a0_0, .int .i64 a0_1, .int .i64 a0_2, .slice A0_3 l0_3.length c0_3]] w fun e w' => e = .returned (.int .i64 r) ∧ Below w.heap.size w w' := by
  have hu24 := Try.underlying24
  have HR0_3 := Aside0.mk hr0_3
  have HC0_3 := Aside0.mk hc0_3
  clear hr0_3 hc0_3
  have HB := Aside0.mk (Below.refl w.heap.size w)
  have H : (offertoryref09_Bits.l0 k 1 a0_0 a0_1 a0_2 l0_3) = some r := h
  clear h
  have H' := Aside0.mk H
  clear H
  go_enter Try.func39, Try.ntmps39
  go_wp2_with (first | ((with_reducible refine gate_dst (N := 1) rfl ?_); refine box_event ?hg (N := 1) ?hd (cs := #[.int .i64 a0_0, .int .i64 a0_1, .int .i64 a0_2, .slice A0_3 l0_3.length c0_3]) (t := 24) ?hr ?_; (case hd => rfl); (case hg => rfl); (case hr => first | (go_simp; done) | (go_simp; rfl)); intro gb339 hg w2 hbox hb; have n0_ := Aside0.mk (below_step (by repeat (first | (with_reducible first | exact HB.out | apply below_alloc | apply pw_below_drewN | apply below_drew1) | exact HB.out)) hb); have n1_ := Aside0.mk (hbox); have n2_ := Aside0.mk ((by rw [hg]; exact (below_size (by repeat (first | (with_reducible first | exact HB.out | apply below_alloc | apply pw_below_drewN | apply below_drew1) | exact HB.out))) : w.heap.size ≤ gb339)); have n3_ := Aside0.mk ((by rw [hg]; exact (below_size (by repeat (first | (with_reducible first | exact HB.out | apply below_alloc | apply pw_below_drewN | apply below_drew1) | exact HB.out))) : w.heap.size ≤ gb339)); clear HB; have HB := n0_; have BK339 := n1_; have GW339 := n2_; have GE339 := n3_; clear n0_ n1_ n2_ n3_; clear hb hbox hg))
  go_loopg [3] k (fun kq v3 w' => ∃ (x3_1 : Int), v3 = .int .i64 x3_1 ∧ Aside0 (offertoryref09_Bits.l0 kq x3_1 a0_0 a0_1 a0_2 l0_3 = some r) ∧ Aside0 (kq ≤ k) ∧ Aside0 (w'.heap[gb339]? = some (.cells #[.int .i64 a0_0, .int .i64 a0_1, .int .i64 a0_2, (.slice A0_3 l0_3.length c0_3)] 24 (0, 0))) ∧ Aside0 (Below w.heap.size w w'))
  case atStart => exact ⟨(1), (by first | rfl | (simp; done) | (simp [*]; done)), H', ⟨Nat.le_refl _⟩, ⟨by (with_reducible repeat (first | refine blk_drewN ?_ _ | refine blk_drew ?_ | refine blk_alloc ?_ _)); exact BK339.out⟩, ⟨by repeat (first | (with_reducible first | exact HB.out | apply below_alloc | apply pw_below_drewN | apply below_drew1 | refine below_set ?_ GE339.out) | exact HB.out)⟩⟩
  case round =>
    clear H'
    try clear p2
    obtain ⟨x3_1, rfl, HA, HK1, BK339, HB⟩ := hrel
    cases gk with
    | zero => exact absurd HA.out (by simp [offertoryref09_Bits.l0])
    | succ k1 =>
      have H := HA.out
      clear HA
      simp only [offertoryref09_Bits.l0] at H
      obtain ⟨ji3, hji3⟩ : ∃ j_ : Int, (IntKind.u64.wrap (x3_1)) = j_ := ⟨_, rfl⟩
      replace H : (if 0 ≤ (ji3) then (if (wrap64 (a0_1 - a0_0)) ≥ (shl .i64 1 (ji3)) then (offertoryref09_Bits.l0 k1 (wrap64 (x3_1 + 1)) a0_0 a0_1 a0_2 l0_3) else (some x3_1)) else (none)) = some r := by first | (rw [hji3] at H; exact H) | (simp only [hji3] at H ⊢; exact H)
      by_cases c4 : 0 ≤ (ji3)
      · rw [if_pos c4] at H
        have c4b0 := eq_true c4
        have c4b1 : decide (0 ≤ (ji3)) = true := decide_eq_true c4
        clear c4
        obtain ⟨ji5, hji5⟩ : ∃ j_ : Int, (shl .i64 1 (ji3)) = j_ := ⟨_, rfl⟩
        replace H : (if (wrap64 (a0_1 - a0_0)) ≥ (ji5) then (offertoryref09_Bits.l0 k1 (wrap64 (x3_1 + 1)) a0_0 a0_1 a0_2 l0_3) else (some x3_1)) = some r := by first | (rw [hji5] at H; exact H) | (simp only [hji5] at H ⊢; exact H)
        have hji5_ : (IntKind.i64.wrap (1 * 2 ^ min (ji3).toNat 64)) = ji5 := hji5
        have hji5z : (ji3) ≤ 64 → (IntKind.i64.wrap (1 * 2 ^ (ji3).toNat)) = ji5 := shl_small hji5
        have hji5u : (IntKind.i64.wrap (2 ^ min (ji3).toNat 64)) = ji5 := by have h_ := hji5_; rw [Int.one_mul] at h_; exact h_
        have hji5v : (ji3) ≤ 64 → (IntKind.i64.wrap (2 ^ (ji3).toNat)) = ji5 := fun hle_ => by have h_ := hji5z hle_; rw [Int.one_mul] at h_; exact h_
        have hji5y : (wrap64 (1 * 2 ^ min (ji3).toNat 64)) = ji5 := (i64_w _).symm.trans hji5_
        have hji5x : (ji3) ≤ 64 → (wrap64 (1 * 2 ^ (ji3).toNat)) = ji5 := fun h_ => (i64_w _).symm.trans (hji5z h_)
        by_cases c6 : (wrap64 (a0_1 - a0_0)) ≥ (ji5)
        · rw [if_pos c6] at H
          have c6b0 : decide ((ji5) ≤ (wrap64 (a0_1 - a0_0))) = true := decide_eq_true c6
          clear c6
          have H' := Aside0.mk H
          clear H
          have hcz7_0 : wr.cell? ⟨gb339, 0, none⟩ = some (.int .i64 a0_0) := (blk_cell BK339.out 0).trans rfl
          have hcz7_1 : wr.cell? ⟨gb339, 1, none⟩ = some (.int .i64 a0_1) := (blk_cell BK339.out 1).trans rfl
          have hcz7_2 : wr.cell? ⟨gb339, 2, none⟩ = some (.int .i64 a0_2) := (blk_cell BK339.out 2).trans rfl
          have hcz7_3 : wr.cell? ⟨gb339, 3, none⟩ = some (.slice A0_3 l0_3.length c0_3) := (blk_cell BK339.out 3).trans rfl
          have hfz7_0 := blk_frozen BK339.out 0
          have hfz7_1 := blk_frozen BK339.out 1
          have hfz7_2 := blk_frozen BK339.out 2
          have hfz7_3 := blk_frozen BK339.out 3
          go_wp2
          go_roundg k1
          case measure => have := HK1.out; omega
          case rel => exact ⟨(wrap64 (x3_1 + 1)), (by first | rfl | (simp; done) | (simp [*]; done)), H', ⟨by have := HK1.out; omega⟩, ⟨by (with_reducible repeat (first | refine blk_drewN ?_ _ | refine blk_drew ?_ | refine blk_alloc ?_ _)); exact BK339.out⟩, ⟨by repeat (first | (with_reducible first | exact HB.out | apply below_alloc | apply pw_below_drewN | apply below_drew1 | refine below_set ?_ GE339.out) | exact HB.out)⟩⟩
        · rw [if_neg c6] at H
          have c6b0 : decide ((ji5) ≤ (wrap64 (a0_1 - a0_0))) = false := decide_eq_false c6
          clear c6
          obtain rfl := Option.some.inj H
          have hcz8_0 : wr.cell? ⟨gb339, 0, none⟩ = some (.int .i64 a0_0) := (blk_cell BK339.out 0).trans rfl
          have hcz8_1 : wr.cell? ⟨gb339, 1, none⟩ = some (.int .i64 a0_1) := (blk_cell BK339.out 1).trans rfl
          have hcz8_2 : wr.cell? ⟨gb339, 2, none⟩ = some (.int .i64 a0_2) := (blk_cell BK339.out 2).trans rfl
          have hcz8_3 : wr.cell? ⟨gb339, 3, none⟩ = some (.slice A0_3 l0_3.length c0_3) := (blk_cell BK339.out 3).trans rfl
          have hfz8_0 := blk_frozen BK339.out 0
          have hfz8_1 := blk_frozen BK339.out 1
          have hfz8_2 := blk_frozen BK339.out 2
          have hfz8_3 := blk_frozen BK339.out 3
          go_wp2
          go_ret
          exact ⟨by first | rfl | (simp [errW_none, errW_some] <;> rfl) | (simp only [← hji3, ← hji5]; first | rfl | (simp [errW_none, errW_some] <;> rfl)) | (simp [*, errW_none, errW_some] <;> rfl), by repeat (first | (with_reducible first | exact HB.out | apply below_alloc | apply pw_below_drewN | apply below_drew1 | refine below_set ?_ GE339.out) | exact HB.out)⟩
      · rw [if_neg c4] at H
        exact absurd H (by simp)

/-! ### offertoryref09_Len: function 14 -/
def offertoryref09_Len.f (k : Nat) (a0_0 : Int) (a0_1 : Int) (a0_2 : Int) (l0_3 : List Int) : Option (Int) := (offertoryref09_Bits.f k a0_0 a0_1 a0_2 l0_3).bind fun t341 => (some (wrap64 ((wrap64 ((l0_3.length : Int) + 2)) + (wrap64 (3 * t341)))))
theorem offertoryref09_Len.mono : ∀ a0 a1 a2 a3 k, LeO (offertoryref09_Len.f k a0 a1 a2 a3) (offertoryref09_Len.f (k + 1) a0 a1 a2 a3) := by
  intro a0 a1 a2 a3 k
  unfold offertoryref09_Len.f
  repeat' first
      | (with_reducible exact offertoryref09_Bits.mono _ _ _ _ _)
      | (with_reducible exact LeO.refl _)
      | (with_reducible exact LeO.none _)
      | (with_reducible refine LeO.ite ?_ ?_)
      | (with_reducible refine LeO.bind ?_ (fun _ => ?_))
      | exact offertoryref09_Bits.mono _ _ _ _ _
      | exact LeO.none _
      | refine LeO.ite ?_ ?_
      | refine LeO.bind ?_ (fun _ => ?_)
def offertoryref09_Len.T1 : Bool × List (List Nat × List Nat) := (true, [([], []), ([0], [0]), ([1], [1]), ([2], [2]), ([], []), ([4], [4]), ([5], [5]), ([3, 6], [3, 6]), ([7, 5, 0, 1, 2, 3, 4, 5, 6, 7], [7])])
def offertoryref09_Len.B1 : List Nat := [0, 1, 3, 7, 0, 16, 48, 127, 255]
theorem offertoryref09_Len.tab1 : rtab .any (opsOf Try.f14 1) = offertoryref09_Len.T1 := by kernel_rfl
theorem offertoryref09_Len.bits1 : waitsOk offertoryref09_Len.T1.2 offertoryref09_Len.B1 = true := by kernel_rfl
set_option maxHeartbeats 8000000 in
set_option maxRecDepth 100000 in
theorem offertoryref09_Len.calls (k : Nat) (a0_0 : Int) (a0_1 : Int) (a0_2 : Int) (A0_3 : Option Addr) (c0_3 : Nat) (l0_3 : List Int) (r : Int) (w : World) (hr0_3 : Kd.C (Kd.int .i64) w A0_3 l0_3.length l0_3) (hc0_3 : l0_3.length ≤ c0_3) (h : offertoryref09_Len.f k a0_0 a0_1 a0_2 l0_3 = some r) :
    Calls Try.prog 14 #[.agg #[.int .i64 a0_0, .int .i64 a0_1, .int .i64 a0_2, .slice A0_3 l0_3.length c0_3]] w fun e w' => e = .returned (.int .i64 r) ∧ Below w.heap.size w w' := by
  have hu24 := Try.underlying24
  have HR0_3 := Aside0.mk hr0_3
  have HC0_3 := Aside0.mk hc0_3
  clear hr0_3 hc0_3
  have HB := Aside0.mk (Below.refl w.heap.size w)
  have H : ((offertoryref09_Bits.f k a0_0 a0_1 a0_2 l0_3).bind fun t341 => (some (wrap64 ((wrap64 ((l0_3.length : Int) + 2)) + (wrap64 (3 * t341)))))) = some r := h
  clear h
  replace H := Option.bind_eq_some_iff.mp H
  obtain ⟨t341, A20, H⟩ := H
  replace H : (some (wrap64 ((wrap64 ((l0_3.length : Int) + 2)) + (wrap64 (3 * t341))))) = some r := H
  have A2 := Aside0.mk A20
  clear A20
  obtain rfl := Option.some.inj H
  go_enter Try.func14, Try.ntmps14
  try go_wp2_with (first | ((with_reducible refine gate_dst (N := 1) rfl ?_); refine box_event ?hg (N := 1) ?hd (cs := #[.int .i64 a0_0, .int .i64 a0_1, .int .i64 a0_2, .slice A0_3 l0_3.length c0_3]) (t := 24) ?hr ?_; (case hd => rfl); (case hg => rfl); (case hr => first | (go_simp; done) | (go_simp; rfl)); intro gb340 hg w3 hbox hb; have n0_ := Aside0.mk (below_step (by repeat (first | (with_reducible first | exact HB.out | apply below_alloc | apply pw_below_drewN | apply below_drew1) | exact HB.out)) hb); have n1_ := Aside0.mk (hbox); have n2_ := Aside0.mk ((by rw [hg]; exact (below_size (by repeat (first | (with_reducible first | exact HB.out | apply below_alloc | apply pw_below_drewN | apply below_drew1) | exact HB.out))) : w.heap.size ≤ gb340)); have n3_ := Aside0.mk ((by rw [hg]; exact (below_size (by repeat (first | (with_reducible first | exact HB.out | apply below_alloc | apply pw_below_drewN | apply below_drew1) | exact HB.out))) : w.heap.size ≤ gb340)); clear HB; have HB := n0_; have BK340 := n1_; have GW340 := n2_; have GE340 := n3_; clear n0_ n1_ n2_ n3_; clear hb hbox hg))
  have n0_ := Aside0.mk (blk_drew BK340.out)
  have n1_ := Aside0.mk (below_drew1 HB.out)
  clear BK340
  clear HB
  have BK340 := n0_
  have HB := n1_
  clear n0_ n1_
  refine start_ (n := 9) (S := fun w' => w'.cell? ⟨gb340, 0, none⟩ = some (.int .i64 a0_0) ∧ w'.cell? ⟨gb340, 1, none⟩ = some (.int .i64 a0_1) ∧ w'.cell? ⟨gb340, 2, none⟩ = some (.int .i64 a0_2) ∧ w'.cell? ⟨gb340, 3, none⟩ = some (.slice A0_3 l0_3.length c0_3)) (ds := []) #[false, false, false, false, false, false, false, false, false] (by kernel_rfl) rfl rfl ⟨(blk_cell BK340.out 0).trans rfl, (blk_cell BK340.out 1).trans rfl, (blk_cell BK340.out 2).trans rfl, (blk_cell BK340.out 3).trans rfl⟩ (fun hHeld => ?_); refine with_tabW offertoryref09_Len.tab1 offertoryref09_Len.bits1 (fun HT_ HW_ => ?_)
  generalize w3.drew = w4 at BK340 HB hHeld ⊢
  refine pure_ (i := 0) (N := some 3) (v := ?_) (a' := ?_) #[true, false, false, false, false, false, false, false, false] rfl rfl (any_of HT_.out (by kernel_rfl)) (fun _ _ _ h => h) (Or.inl ⟨by rfl, ?_⟩) ?_ ?_
  rotate_left
  · intro w'
    (try simp only [add_plain] at s0 s1 s2 s3)
    go_simp
    with_reducible rfl
  rotate_left
  · simp only [Act.put, List.setIfInBounds_toArray, List.set_cons_zero, List.set_cons_succ, i64_w, i32_w]
    rfl
  refine take_ (i := 1) (N := some 4) (v := ?_) (a' := ?_) #[true, true, false, false, false, false, false, false, false] rfl rfl (take_ofW HT_.out HW_.out (by kernel_rfl)) (fun _ _ _ h => h) (Or.inl ⟨by rfl, ?_⟩) hHeld ?_ ?_
  rotate_left
  · rintro w' ⟨s0, s1, s2, s3⟩
    (try simp only [add_plain] at s0 s1 s2 s3)
    go_simp
    with_reducible rfl
  rotate_left
  · simp only [Act.put, List.setIfInBounds_toArray, List.set_cons_zero, List.set_cons_succ, i64_w, i32_w]
    rfl
  refine pure_ (i := 2) (N := some 5) (v := ?_) (a' := ?_) #[true, true, true, false, false, false, false, false, false] rfl rfl (any_of HT_.out (by kernel_rfl)) (fun _ _ _ h => h) (Or.inl ⟨by rfl, ?_⟩) ?_ ?_
  rotate_left
  · intro w'
    (try simp only [add_plain] at s0 s1 s2 s3)
    go_simp
    with_reducible rfl
  rotate_left
  · simp only [Act.put, List.setIfInBounds_toArray, List.set_cons_zero, List.set_cons_succ, i64_w, i32_w]
    rfl
  refine pure_ (i := 3) (N := some 6) (v := ?_) (a' := ?_) #[true, true, true, true, false, false, false, false, false] rfl rfl (any_of HT_.out (by kernel_rfl)) (fun _ _ _ h => h) (Or.inl ⟨by rfl, ?_⟩) ?_ ?_
  rotate_left
  · intro w'
    (try simp only [add_plain] at s0 s1 s2 s3)
    go_simp
    with_reducible rfl
  rotate_left
  · simp only [Act.put, List.setIfInBounds_toArray, List.set_cons_zero, List.set_cons_succ, i64_w, i32_w]
    rfl
  refine take_ (i := 4) (N := some 7) (v := ?_) (a' := ?_) #[true, true, true, true, true, false, false, false, false] rfl rfl (take_ofW HT_.out HW_.out (by kernel_rfl)) (fun _ _ _ h => h) (Or.inl ⟨by rfl, ?_⟩) hHeld ?_ ?_
  rotate_left
  · rintro w' ⟨s0, s1, s2, s3⟩
    (try simp only [add_plain] at s0 s1 s2 s3)
    go_simp
    with_reducible rfl
  rotate_left
  · simp only [Act.put, List.setIfInBounds_toArray, List.set_cons_zero, List.set_cons_succ, i64_w, i32_w]
    rfl
  refine one_ (i := 5) (N := some 8) #[true, true, true, true, true, true, false, false, false] rfl rfl (one_of HT_.out (by kernel_rfl)) (by decide) (fun K hK => ?_)
  refine goes_ Try.func39 (by kernel_rfl) rfl #[.agg #[.int .i64 a0_0, .int .i64 a0_1, .int .i64 a0_2, .slice A0_3 l0_3.length c0_3]] (by rfl) rfl rfl (by (try simp only [List.map_toArray, List.map_cons, List.map_nil]); first | done | rfl | (simp only [List.length_drop, List.length_take]; rfl)) ?_
  with_reducible refine (offertoryref09_Bits.calls k a0_0 a0_1 a0_2 _ _ l0_3 t341 _ ?side1 ?side2 A2.out).mono ?_
  (case side1 => repeat (first | exact (Kd.C_below HR0_3.out HB.out) | (with_reducible refine Kd.C_alloc ?_ _) | (with_reducible refine Kd.C_drewN ?_ _) | (with_reducible refine Kd.C_drew ?_)))
  (case side2 => exact HC0_3.out)
  rintro e w5 ⟨rfl, hb⟩
  refine ⟨_, rfl, ?_⟩
  have n0_ := Aside0.mk (blk_below (g := gb340) (o := .cells #[.int .i64 a0_0, .int .i64 a0_1, .int .i64 a0_2, .slice A0_3 l0_3.length c0_3] 24 (0, 0)) (by (with_reducible repeat (first | refine blk_drewN ?_ _ | refine blk_drew ?_ | refine blk_alloc ?_ _)); exact BK340.out) hb)
  have n1_ := Aside0.mk (below_step (by repeat (first | (with_reducible first | exact HB.out | apply below_alloc | apply pw_below_drewN | apply below_drew1 | refine below_set ?_ GE340.out) | exact HB.out)) hb)
  clear BK340
  clear HB
  have BK340 := n0_
  have HB := n1_
  clear n0_ n1_
  (try clear hb)
  (try clear hb2)
  (try clear hk)
  (try clear hi)
  refine hK.out _ _ ⟨(blk_cell BK340.out 0).trans rfl, (blk_cell BK340.out 1).trans rfl, (blk_cell BK340.out 2).trans rfl, (blk_cell BK340.out 3).trans rfl⟩ (fun hHeld => ?_)
  clear hK K
  refine norm_ (a' := ?_) ?_ ?_
  rotate_left
  · show Act.put _ (some 8) _ = _
    simp only [Act.put, List.setIfInBounds_toArray, List.set_cons_zero, List.set_cons_succ, i64_w, i32_w]
    rfl
  refine pure_ (i := 6) (N := some 9) (v := ?_) (a' := ?_) #[true, true, true, true, true, true, true, false, false] rfl rfl (any_of HT_.out (by kernel_rfl)) (fun _ _ _ h => h) (Or.inl ⟨by rfl, ?_⟩) ?_ ?_
  rotate_left
  · intro w'
    (try simp only [add_plain] at s0 s1 s2 s3)
    go_simp
    with_reducible rfl
  rotate_left
  · simp only [Act.put, List.setIfInBounds_toArray, List.set_cons_zero, List.set_cons_succ, i64_w, i32_w]
    rfl
  refine pure_ (i := 7) (N := some 10) (v := ?_) (a' := ?_) #[true, true, true, true, true, true, true, true, false] rfl rfl (any_of HT_.out (by kernel_rfl)) (fun _ _ _ h => h) (Or.inl ⟨by rfl, ?_⟩) ?_ ?_
  rotate_left
  · intro w'
    (try simp only [add_plain] at s0 s1 s2 s3)
    go_simp
    with_reducible rfl
  rotate_left
  · simp only [Act.put, List.setIfInBounds_toArray, List.set_cons_zero, List.set_cons_succ, i64_w, i32_w]
    rfl
  refine pure_ (i := 8) (N := some 2) (v := ?_) (a' := ?_) #[true, true, true, true, true, true, true, true, true] rfl rfl (any_of HT_.out (by kernel_rfl)) (fun _ _ _ h => h) (Or.inl ⟨by rfl, ?_⟩) ?_ ?_
  rotate_left
  · intro w'
    (try simp only [add_plain] at s0 s1 s2 s3)
    go_simp
    with_reducible rfl
  rotate_left
  · simp only [Act.put, List.setIfInBounds_toArray, List.set_cons_zero, List.set_cons_succ, i64_w, i32_w]
    rfl
  refine done_ (done_of HT_.out (by kernel_rfl)) ?_
  try go_wp2
  go_ret
  exact ⟨by first | rfl | (simp [errW_none, errW_some] <;> rfl) | (simp [*, errW_none, errW_some] <;> rfl), by repeat (first | (with_reducible first | exact HB.out | apply below_alloc | apply pw_below_drewN | apply below_drew1 | refine below_set ?_ GE340.out) | exact HB.out)⟩

-- NOT PRINTED: function 15 (offertoryref09_Decode)

-- NOT PRINTED: function 4 (offertorylaw13_StatsDecodes)

-- NOT PRINTED: function 16 (offertoryref09_Encode)

-- NOT PRINTED: function 5 (offertorylaw13_StatsBack)

end Go.Proofs.Ytdpekjffjobabaa.PAll
