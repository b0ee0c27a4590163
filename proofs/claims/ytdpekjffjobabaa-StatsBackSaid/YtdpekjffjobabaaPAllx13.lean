/- The Go functions that the laws reach, as Lean functions, and that each call comes to what its function says. Written by a program of this session (a turned copy of the kit's print). No condition beyond those that each theorem states. -/
import Derived.Test.YtdpekjffjobabaaPAllx0
import Derived.Test.YtdpekjffjobabaaPAllx4
import Derived.Test.YtdpekjffjobabaaPAllx5
import Derived.Test.YtdpekjffjobabaaPAllx7
import Derived.Test.YtdpekjffjobabaaPAllx8
import Derived.Test.YtdpekjffjobabaaPAllx12
namespace Go.Proofs.Ytdpekjffjobabaa.PAll
open Go.RowKit Go.Proofs.YtdpekjffjobabaaW.PrintWords Go.Proofs.YtdpekjffjobabaaW.PrintLast Go.Proofs.YtdpekjffjobabaaW.PrintMore
attribute [local go_sem] max2_int min2_int max_two min_two max_three min_three max_four min_four   -- for this text's walks alone
set_option linter.unusedVariables false
set_option linter.unusedSimpArgs false

theorem offertorylaw13_StatsBack.keepB {W0 W w1 : World} {g : Nat} {o : Obj} (h : Aside0 (W0.heap[g]? = some o)) (hb : Below W.heap.size W w1) (hs : W0.heap[g]? = some o → W.heap[g]? = some o := by intro h_; (with_reducible repeat (first | refine blk_drewN ?_ _ | refine blk_drew ?_ | refine blk_alloc ?_ _)); exact h_) : Aside0 (w1.heap[g]? = some o) := ⟨(hb.block g (blk_lt (hs h.out))).trans (hs h.out)⟩
theorem offertorylaw13_StatsBack.neL {W0 W : World} {g gb : Nat} {o : Obj} (h : Aside0 (W0.heap[g]? = some o)) (hg : gb = W.heap.size) (hs : W0.heap[g]? = some o → W.heap[g]? = some o := by intro h_; (with_reducible repeat (first | refine blk_drewN ?_ _ | refine blk_drew ?_ | refine blk_alloc ?_ _)); exact h_) : Aside0 (g ≠ gb) := ⟨by rw [hg]; exact Nat.ne_of_lt (blk_lt (hs h.out))⟩
theorem offertorylaw13_StatsBack.neG {W0 W : World} {g gb : Nat} {o : Obj} (h : Aside0 (W0.heap[g]? = some o)) (hg : gb = W.heap.size) (hs : W0.heap[g]? = some o → W.heap[g]? = some o := by intro h_; (with_reducible repeat (first | refine blk_drewN ?_ _ | refine blk_drew ?_ | refine blk_alloc ?_ _)); exact h_) : Aside0 (gb ≠ g) := ⟨by rw [hg]; exact Nat.ne_of_gt (blk_lt (hs h.out))⟩
/-! ### offertorylaw13_StatsBack: function 5 -/
def offertorylaw13_StatsBack.j0 : Nat → List Int → Bool → Int → Int → Int → List Int → Option (Bool)
  | 0, _, _, _, _, _, _ => none
  | k + 1, x1, x16, x242000, x242001, x242002, x242003 => if x16 = true then ((offertorylaw13_awake.f k).bind fun t243 => (some t243)) else ((offertoryref09_Encode.f k x242000 x242001 x242002 x242003 x1).bind fun t244 => ((stats_Decode.f k x242000 x242001 x242002 x242003 t244).bind fun bt247 => ((stats_Of.f k x242000 x242001 x242002 x242003 x1).bind fun bt258 => ((offertorylaw13_awake.f k).bind fun t269 => (if t269 = true then (if bt247.2.2.2.2.2.2.2 = 0 then (if bt258.2.2.2.2.2.2.2 = 0 then ((stats_Same.f k bt247.1 bt247.2.1 bt247.2.2.1 bt247.2.2.2.1 bt247.2.2.2.2.1 bt247.2.2.2.2.2.1 bt247.2.2.2.2.2.2.1 bt258.1 bt258.2.1 bt258.2.2.1 bt258.2.2.2.1 bt258.2.2.2.2.1 bt258.2.2.2.2.2.1 bt258.2.2.2.2.2.2.1).bind fun t270 => (if t270 = true then ((offertoryref09_Same.f k bt247.1 bt247.2.1 bt247.2.2.1 bt247.2.2.2.1 bt247.2.2.2.2.1 bt247.2.2.2.2.2.1 bt247.2.2.2.2.2.2.1 bt258.1 bt258.2.1 bt258.2.2.1 bt258.2.2.2.1 bt258.2.2.2.2.1 bt258.2.2.2.2.2.1 bt258.2.2.2.2.2.2.1).bind fun t271 => (some t271)) else (none))) else (none)) else (none)) else (none))))))
def offertorylaw13_StatsBack.f (k : Nat) (a0_0 : Int) (a0_1 : Int) (a0_2 : Int) (l0_3 : List Int) (l1 : List Int) : Option (Bool) := (offertoryref09_Sound.f k a0_0 a0_1 a0_2 l0_3).bind fun t242 => (if t242 = 0 then (offertorylaw13_StatsBack.j0 k l1 (decide ((l1.length : Int) > 300)) a0_0 a0_1 a0_2 l0_3) else (offertorylaw13_StatsBack.j0 k l1 true a0_0 a0_1 a0_2 l0_3))
theorem offertorylaw13_StatsBack.mono_l : ∀ k, (∀ y0 y1 y2 y3 y4 y5, LeO (offertorylaw13_StatsBack.j0 k y0 y1 y2 y3 y4 y5) (offertorylaw13_StatsBack.j0 (k + 1) y0 y1 y2 y3 y4 y5))
  | 0 => fun _ _ _ _ _ _ r h => by simp [offertorylaw13_StatsBack.j0] at h
  | k + 1 => by
    have ih0 := offertorylaw13_StatsBack.mono_l k
    · intro y0 y1 y2 y3 y4 y5
      unfold offertorylaw13_StatsBack.j0
      repeat' first
      | (with_reducible exact ih0 _ _ _ _ _ _)
      | (with_reducible exact offertorylaw13_awake.mono _)
      | (with_reducible exact offertoryref09_Encode.mono _ _ _ _ _ _)
      | (with_reducible exact offertoryref09_Same.mono _ _ _ _ _ _ _ _ _ _ _ _ _ _ _)
      | (with_reducible exact offertoryref09_Sound.mono _ _ _ _ _)
      | (with_reducible exact stats_Decode.mono _ _ _ _ _ _)
      | (with_reducible exact stats_Of.mono _ _ _ _ _ _)
      | (with_reducible exact stats_Same.mono _ _ _ _ _ _ _ _ _ _ _ _ _ _ _)
      | (with_reducible exact LeO.refl _)
      | (with_reducible exact LeO.none _)
      | (with_reducible refine LeO.ite ?_ ?_)
      | (with_reducible refine LeO.bind ?_ (fun _ => ?_))
      | exact ih0 _ _ _ _ _ _
      | exact offertorylaw13_awake.mono _
      | exact offertoryref09_Encode.mono _ _ _ _ _ _
      | exact offertoryref09_Same.mono _ _ _ _ _ _ _ _ _ _ _ _ _ _ _
      | exact offertoryref09_Sound.mono _ _ _ _ _
      | exact stats_Decode.mono _ _ _ _ _ _
      | exact stats_Of.mono _ _ _ _ _ _
      | exact stats_Same.mono _ _ _ _ _ _ _ _ _ _ _ _ _ _ _
      | exact LeO.none _
      | refine LeO.ite ?_ ?_
      | refine LeO.bind ?_ (fun _ => ?_)
theorem offertorylaw13_StatsBack.mono : ∀ a0 a1 a2 a3 a4 k, LeO (offertorylaw13_StatsBack.f k a0 a1 a2 a3 a4) (offertorylaw13_StatsBack.f (k + 1) a0 a1 a2 a3 a4) := by
  intro a0 a1 a2 a3 a4 k
  have ih0 := offertorylaw13_StatsBack.mono_l k
  unfold offertorylaw13_StatsBack.f
  repeat' first
      | (with_reducible exact ih0 _ _ _ _ _ _)
      | (with_reducible exact offertorylaw13_awake.mono _)
      | (with_reducible exact offertoryref09_Encode.mono _ _ _ _ _ _)
      | (with_reducible exact offertoryref09_Same.mono _ _ _ _ _ _ _ _ _ _ _ _ _ _ _)
      | (with_reducible exact offertoryref09_Sound.mono _ _ _ _ _)
      | (with_reducible exact stats_Decode.mono _ _ _ _ _ _)
      | (with_reducible exact stats_Of.mono _ _ _ _ _ _)
      | (with_reducible exact stats_Same.mono _ _ _ _ _ _ _ _ _ _ _ _ _ _ _)
      | (with_reducible exact LeO.refl _)
      | (with_reducible exact LeO.none _)
      | (with_reducible refine LeO.ite ?_ ?_)
      | (with_reducible refine LeO.bind ?_ (fun _ => ?_))
      | exact ih0 _ _ _ _ _ _
      | exact offertorylaw13_awake.mono _
      | exact offertoryref09_Encode.mono _ _ _ _ _ _
      | exact offertoryref09_Same.mono _ _ _ _ _ _ _ _ _ _ _ _ _ _ _
      | exact offertoryref09_Sound.mono _ _ _ _ _
      | exact stats_Decode.mono _ _ _ _ _ _
      | exact stats_Of.mono _ _ _ _ _ _
      | exact stats_Same.mono _ _ _ _ _ _ _ _ _ _ _ _ _ _ _
      | exact LeO.none _
      | refine LeO.ite ?_ ?_
      | refine LeO.bind ?_ (fun _ => ?_)
def offertorylaw13_StatsBack.T3 : Bool × List (List Nat × List Nat) := (true, [([], []), ([], []), ([], []), ([1, 2], [1, 2]), ([0, 3, 3], [0, 3]), ([4], [4]), ([5], [5]), ([5], [5]), ([], []), ([8, 6, 4, 0, 1, 2, 3, 4, 5, 6, 8], [6, 8]), ([7, 9, 0, 1, 2, 3, 4, 5, 6, 7, 8, 9], [7])])
def offertorylaw13_StatsBack.B3 : List Nat := [0, 0, 0, 6, 15, 31, 63, 63, 0, 383, 1023]
theorem offertorylaw13_StatsBack.tab3 : rtab .any (opsOf Try.f5 3) = offertorylaw13_StatsBack.T3 := by kernel_rfl
theorem offertorylaw13_StatsBack.bits3 : waitsOk offertorylaw13_StatsBack.T3.2 offertorylaw13_StatsBack.B3 = true := by kernel_rfl
set_option maxHeartbeats 8000000 in
set_option maxRecDepth 100000 in
theorem offertorylaw13_StatsBack.calls (k : Nat) (a0_0 : Int) (a0_1 : Int) (a0_2 : Int) (A0_3 : Option Addr) (c0_3 : Nat) (l0_3 : List Int) (A1 : Option Addr) (c1 : Nat) (l1 : List Int) (r : Bool) (w : World) (hr0_3 : Kd.C (Kd.int .i64) w A0_3 l0_3.length l0_3) (hc0_3 : l0_3.length ≤ c0_3) (hr1 : Kd.C (Kd.int .i64) w A1 l1.length l1) (hc1 : l1.length ≤ c1) (h : offertorylaw13_StatsBack.f k a0_0 a0_1 a0_2 l0_3 l1 = some r) :
    Calls Try.prog 5 #[.agg #[.int .i64 a0_0, .int .i64 a0_1, .int .i64 a0_2, .slice A0_3 l0_3.length c0_3], .slice A1 l1.length c1] w fun e w' => e = .returned (.bool r) ∧ Below w.heap.size w w' := by
  have hu24 := Try.underlying24
  have hu29 := Try.underlying29
  have HR0_3 := Aside0.mk hr0_3
  have HC0_3 := Aside0.mk hc0_3
  clear hr0_3 hc0_3
  have HR1 := Aside0.mk hr1
  have HC1 := Aside0.mk hc1
  clear hr1 hc1
  have HB := Aside0.mk (Below.refl w.heap.size w)
  have H : ((offertoryref09_Sound.f k a0_0 a0_1 a0_2 l0_3).bind fun t242 => (if t242 = 0 then (offertorylaw13_StatsBack.j0 k l1 (decide ((l1.length : Int) > 300)) a0_0 a0_1 a0_2 l0_3) else (offertorylaw13_StatsBack.j0 k l1 true a0_0 a0_1 a0_2 l0_3))) = some r := h
  clear h
  have HC3 := Aside0.mk H
  clear H
  go_enter Try.func5, Try.ntmps5
  go_upto_region 1 with (first | ((with_reducible refine gate_dst (N := 2) rfl ?_); (try (refine gate_guard (by rfl) ?_; dsimp only)); refine box_event ?hg (N := 2) ?hd (cs := #[.int .i64 a0_0, .int .i64 a0_1, .int .i64 a0_2, .slice A0_3 l0_3.length c0_3]) (t := 24) ?hr ?_; (case hd => rfl); (case hg => rfl); (case hr => first | (go_simp; done) | (go_simp; rfl)); intro gb241 hg w4 hbox hb; have n0_ := Aside0.mk (below_step (by repeat (first | (with_reducible first | exact HB.out | apply below_alloc | apply pw_below_drewN | apply below_drew1) | exact HB.out)) hb); have n1_ := Aside0.mk (hbox); have n2_ := Aside0.mk ((by rw [hg]; exact (below_size (by repeat (first | (with_reducible first | exact HB.out | apply below_alloc | apply pw_below_drewN | apply below_drew1) | exact HB.out))) : w.heap.size ≤ gb241)); have n3_ := Aside0.mk ((by rw [hg]; exact (below_size (by repeat (first | (with_reducible first | exact HB.out | apply below_alloc | apply pw_below_drewN | apply below_drew1) | exact HB.out))) : w.heap.size ≤ gb241)); clear HB; have HB := n0_; have BK241 := n1_; have GW241 := n2_; have GE241 := n3_; clear n0_ n1_ n2_ n3_; clear hb hbox hg))
  (try simp only [Act.put, List.setIfInBounds_toArray, List.set_cons_zero, List.set_cons_succ])
  go_cut [16] (fun v16 wc => ∃ (kq : Nat) (x16_2 : Bool), v16 = .bool x16_2 ∧ Aside0 (offertorylaw13_StatsBack.j0 kq l1 x16_2 a0_0 a0_1 a0_2 l0_3 = some r) ∧ Aside0 (kq ≤ k) ∧ Aside0 (wc.heap[gb241]? = some (.cells #[.int .i64 a0_0, .int .i64 a0_1, .int .i64 a0_2, (.slice A0_3 l0_3.length c0_3)] 24 (0, 0))) ∧ Aside0 (Below w.heap.size w wc))
  case first =>
    have H := HC3.out
    clear HC3
    replace H := Option.bind_eq_some_iff.mp H
    obtain ⟨t242, A50, H⟩ := H
    replace H : (if t242 = 0 then (offertorylaw13_StatsBack.j0 k l1 (decide ((l1.length : Int) > 300)) a0_0 a0_1 a0_2 l0_3) else (offertorylaw13_StatsBack.j0 k l1 true a0_0 a0_1 a0_2 l0_3)) = some r := H
    have A5 := Aside0.mk A50
    clear A50
    by_cases c6 : t242 = 0
    · rw [if_pos c6] at H
      have c6b0 : (t242 == 0) = true := beq_iff_eq.mpr c6
      have c6b1 : (t242 != 0) = false := bne_eq_false_iff_eq.mpr c6
      clear c6
      (first | rw [c6b0] | (simp only [i64_w, i32_w]; rw [c6b0]) | skip)
      have H' := Aside0.mk H
      clear H
      have hcz7_0 : w4.cell? ⟨gb241, 0, none⟩ = some (.int .i64 a0_0) := (blk_cell BK241.out 0).trans rfl
      have hcz7_1 : w4.cell? ⟨gb241, 1, none⟩ = some (.int .i64 a0_1) := (blk_cell BK241.out 1).trans rfl
      have hcz7_2 : w4.cell? ⟨gb241, 2, none⟩ = some (.int .i64 a0_2) := (blk_cell BK241.out 2).trans rfl
      have hcz7_3 : w4.cell? ⟨gb241, 3, none⟩ = some (.slice A0_3 l0_3.length c0_3) := (blk_cell BK241.out 3).trans rfl
      have hfz7_0 := blk_frozen BK241.out 0
      have hfz7_1 := blk_frozen BK241.out 1
      have hfz7_2 := blk_frozen BK241.out 2
      have hfz7_3 := blk_frozen BK241.out 3
      go_wp2_with (first | ((with_reducible refine gate_callee (f := 9) rfl ?_); refine goesL_ (some 10) rfl rfl Try.func9 (by kernel_rfl) rfl #[.agg #[.int .i64 a0_0, .int .i64 a0_1, .int .i64 a0_2, .slice A0_3 l0_3.length c0_3]] rfl (by (try simp only [List.map_toArray, List.map_cons, List.map_nil]); first | done | rfl | (simp only [List.length_drop, List.length_take]; rfl)) ?_; (with_reducible refine (offertoryref09_Sound.calls k a0_0 a0_1 a0_2 _ _ l0_3 t242 _ ?side1 ?side2 A5.out).mono ?_); (case side1 => repeat (first | exact (Kd.C_below HR0_3.out HB.out) | (with_reducible refine Kd.C_alloc ?_ _) | (with_reducible refine Kd.C_drewN ?_ _) | (with_reducible refine Kd.C_drew ?_))); (case side2 => exact HC0_3.out); rintro e w8 ⟨rfl, hb⟩; refine ⟨_, rfl, ?_⟩; have n0_ := offertorylaw13_StatsBack.keepB BK241 hb; have n1_ := Aside0.mk (below_step (by repeat (first | (with_reducible first | exact HB.out | apply below_alloc | apply pw_below_drewN | apply below_drew1 | refine below_set ?_ GE241.out) | exact HB.out)) hb); clear BK241; clear HB; have BK241 := n0_; have HB := n1_; clear n0_ n1_; (try clear hb); (try clear hb2); (try clear hk); (try clear hi)))
      go_meet
      case rel => exact ⟨_, (decide ((l1.length : Int) > 300)), (by first | rfl | (simp; done) | (simp [*]; done)), H', ⟨by first | omega | exact Nat.le_refl _⟩, ⟨by (with_reducible repeat (first | refine blk_drewN ?_ _ | refine blk_drew ?_ | refine blk_alloc ?_ _)); exact BK241.out⟩, ⟨by repeat (first | (with_reducible first | exact HB.out | apply below_alloc | apply pw_below_drewN | apply below_drew1 | refine below_set ?_ GE241.out) | exact HB.out)⟩⟩
    · rw [if_neg c6] at H
      have c6b0 : (t242 == 0) = false := beq_eq_false_iff_ne.mpr c6
      have c6b1 : (t242 != 0) = true := bne_iff_ne.mpr c6
      (first | rw [c6b0] | (simp only [i64_w, i32_w]; rw [c6b0]) | skip)
      have H' := Aside0.mk H
      clear H
      have hcz9_0 : w4.cell? ⟨gb241, 0, none⟩ = some (.int .i64 a0_0) := (blk_cell BK241.out 0).trans rfl
      have hcz9_1 : w4.cell? ⟨gb241, 1, none⟩ = some (.int .i64 a0_1) := (blk_cell BK241.out 1).trans rfl
      have hcz9_2 : w4.cell? ⟨gb241, 2, none⟩ = some (.int .i64 a0_2) := (blk_cell BK241.out 2).trans rfl
      have hcz9_3 : w4.cell? ⟨gb241, 3, none⟩ = some (.slice A0_3 l0_3.length c0_3) := (blk_cell BK241.out 3).trans rfl
      have hfz9_0 := blk_frozen BK241.out 0
      have hfz9_1 := blk_frozen BK241.out 1
      have hfz9_2 := blk_frozen BK241.out 2
      have hfz9_3 := blk_frozen BK241.out 3
      go_wp2_with (first | ((with_reducible refine gate_callee (f := 9) rfl ?_); refine goesL_ (some 10) rfl rfl Try.func9 (by kernel_rfl) rfl #[.agg #[.int .i64 a0_0, .int .i64 a0_1, .int .i64 a0_2, .slice A0_3 l0_3.length c0_3]] rfl (by (try simp only [List.map_toArray, List.map_cons, List.map_nil]); first | done | rfl | (simp only [List.length_drop, List.length_take]; rfl)) ?_; (with_reducible refine (offertoryref09_Sound.calls k a0_0 a0_1 a0_2 _ _ l0_3 t242 _ ?side1 ?side2 A5.out).mono ?_); (case side1 => repeat (first | exact (Kd.C_below HR0_3.out HB.out) | (with_reducible refine Kd.C_alloc ?_ _) | (with_reducible refine Kd.C_drewN ?_ _) | (with_reducible refine Kd.C_drew ?_))); (case side2 => exact HC0_3.out); rintro e w10 ⟨rfl, hb⟩; refine ⟨_, rfl, ?_⟩; have n0_ := offertorylaw13_StatsBack.keepB BK241 hb; have n1_ := Aside0.mk (below_step (by repeat (first | (with_reducible first | exact HB.out | apply below_alloc | apply pw_below_drewN | apply below_drew1 | refine below_set ?_ GE241.out) | exact HB.out)) hb); clear BK241; clear HB; have BK241 := n0_; have HB := n1_; clear n0_ n1_; (try clear hb); (try clear hb2); (try clear hk); (try clear hi)))
      go_meet
      case rel => exact ⟨_, (true), (by first | rfl | (simp; done) | (simp [*]; done)), H', ⟨by first | omega | exact Nat.le_refl _⟩, ⟨by (with_reducible repeat (first | refine blk_drewN ?_ _ | refine blk_drew ?_ | refine blk_alloc ?_ _)); exact BK241.out⟩, ⟨by repeat (first | (with_reducible first | exact HB.out | apply below_alloc | apply pw_below_drewN | apply below_drew1 | refine below_set ?_ GE241.out) | exact HB.out)⟩⟩
  case rest =>
    clear HC3
    try clear c1
    try clear p2
    try clear c5
    try clear c6
    try clear c6b0
    try clear c6b1
    try clear c9
    try clear hcz7_0
    try clear hcz7_1
    try clear hcz7_2
    try clear hcz7_3
    try clear hcz9_0
    try clear hcz9_1
    try clear hcz9_2
    try clear hcz9_3
    try clear hfz7_0
    try clear hfz7_1
    try clear hfz7_2
    try clear hfz7_3
    try clear hfz9_0
    try clear hfz9_1
    try clear hfz9_2
    try clear hfz9_3
    obtain ⟨kq, x16_2, rfl, HA, HJ2, BK241, HB⟩ := hcut
    cases kq with
    | zero => exact absurd HA.out (by simp [offertorylaw13_StatsBack.j0])
    | succ kj2 =>
      have H := HA.out
      clear HA
      simp only [offertorylaw13_StatsBack.j0] at H
      by_cases c11 : x16_2 = true
      · subst c11
        have H1 : ((offertorylaw13_awake.f kj2).bind fun t243 => (some t243)) = some r := by rw [if_pos rfl] at H; exact H
        clear H
        have H := H1
        clear H1
        replace H := Option.bind_eq_some_iff.mp H
        obtain ⟨t243, A120, H⟩ := H
        replace H : (some t243) = some r := H
        have A12 := Aside0.mk A120
        clear A120
        obtain rfl := Option.some.inj H
        go_wp2_with (first | ((with_reducible refine gate_callee (f := 10) rfl ?_); refine goesL_ (some 17) rfl rfl Try.func10 (by kernel_rfl) rfl #[] rfl (by (try simp only [List.map_toArray, List.map_cons, List.map_nil]); first | done | rfl | (simp only [List.length_drop, List.length_take]; rfl)) ?_; (with_reducible refine (offertorylaw13_awake.calls kj2  t243 _ A12.out).mono ?_); rintro e w13 ⟨rfl, hb⟩; refine ⟨_, rfl, ?_⟩; have n0_ := offertorylaw13_StatsBack.keepB BK241 hb; have n1_ := Aside0.mk (below_step (by repeat (first | (with_reducible first | exact HB.out | apply below_alloc | apply pw_below_drewN | apply below_drew1 | refine below_set ?_ GE241.out) | exact HB.out)) hb); clear BK241; clear HB; have BK241 := n0_; have HB := n1_; clear n0_ n1_; (try clear hb); (try clear hb2); (try clear hk); (try clear hi)))
        go_ret
        exact ⟨by first | rfl | (simp [errW_none, errW_some] <;> rfl) | (simp [*, errW_none, errW_some] <;> rfl), by repeat (first | (with_reducible first | exact HB.out | apply below_alloc | apply pw_below_drewN | apply below_drew1 | refine below_set ?_ GE241.out) | exact HB.out)⟩
      · replace c11 := Bool.eq_false_iff.mpr c11
        subst c11
        have H1 : ((offertoryref09_Encode.f kj2 a0_0 a0_1 a0_2 l0_3 l1).bind fun t244 => ((stats_Decode.f kj2 a0_0 a0_1 a0_2 l0_3 t244).bind fun bt247 => ((stats_Of.f kj2 a0_0 a0_1 a0_2 l0_3 l1).bind fun bt258 => ((offertorylaw13_awake.f kj2).bind fun t269 => (if t269 = true then (if bt247.2.2.2.2.2.2.2 = 0 then (if bt258.2.2.2.2.2.2.2 = 0 then ((stats_Same.f kj2 bt247.1 bt247.2.1 bt247.2.2.1 bt247.2.2.2.1 bt247.2.2.2.2.1 bt247.2.2.2.2.2.1 bt247.2.2.2.2.2.2.1 bt258.1 bt258.2.1 bt258.2.2.1 bt258.2.2.2.1 bt258.2.2.2.2.1 bt258.2.2.2.2.2.1 bt258.2.2.2.2.2.2.1).bind fun t270 => (if t270 = true then ((offertoryref09_Same.f kj2 bt247.1 bt247.2.1 bt247.2.2.1 bt247.2.2.2.1 bt247.2.2.2.2.1 bt247.2.2.2.2.2.1 bt247.2.2.2.2.2.2.1 bt258.1 bt258.2.1 bt258.2.2.1 bt258.2.2.2.1 bt258.2.2.2.2.1 bt258.2.2.2.2.2.1 bt258.2.2.2.2.2.2.1).bind fun t271 => (some t271)) else (none))) else (none)) else (none)) else (none)))))) = some r := by rw [if_neg (show ¬ (false = true) by decide)] at H; exact H
        clear H
        have H := H1
        clear H1
        replace H := Option.bind_eq_some_iff.mp H
        obtain ⟨t244, A140, H⟩ := H
        replace H : ((stats_Decode.f kj2 a0_0 a0_1 a0_2 l0_3 t244).bind fun bt247 => ((stats_Of.f kj2 a0_0 a0_1 a0_2 l0_3 l1).bind fun bt258 => ((offertorylaw13_awake.f kj2).bind fun t269 => (if t269 = true then (if bt247.2.2.2.2.2.2.2 = 0 then (if bt258.2.2.2.2.2.2.2 = 0 then ((stats_Same.f kj2 bt247.1 bt247.2.1 bt247.2.2.1 bt247.2.2.2.1 bt247.2.2.2.2.1 bt247.2.2.2.2.2.1 bt247.2.2.2.2.2.2.1 bt258.1 bt258.2.1 bt258.2.2.1 bt258.2.2.2.1 bt258.2.2.2.2.1 bt258.2.2.2.2.2.1 bt258.2.2.2.2.2.2.1).bind fun t270 => (if t270 = true then ((offertoryref09_Same.f kj2 bt247.1 bt247.2.1 bt247.2.2.1 bt247.2.2.2.1 bt247.2.2.2.2.1 bt247.2.2.2.2.2.1 bt247.2.2.2.2.2.2.1 bt258.1 bt258.2.1 bt258.2.2.1 bt258.2.2.2.1 bt258.2.2.2.2.1 bt258.2.2.2.2.2.1 bt258.2.2.2.2.2.2.1).bind fun t271 => (some t271)) else (none))) else (none)) else (none)) else (none))))) = some r := H
        have A14 := Aside0.mk A140
        clear A140
        replace H := Option.bind_eq_some_iff.mp H
        obtain ⟨⟨t247, t250, t251, t252, t253, t254, t255, t256⟩, A150, H⟩ := H
        replace H : ((stats_Of.f kj2 a0_0 a0_1 a0_2 l0_3 l1).bind fun bt258 => ((offertorylaw13_awake.f kj2).bind fun t269 => (if t269 = true then (if t256 = 0 then (if bt258.2.2.2.2.2.2.2 = 0 then ((stats_Same.f kj2 t247 t250 t251 t252 t253 t254 t255 bt258.1 bt258.2.1 bt258.2.2.1 bt258.2.2.2.1 bt258.2.2.2.2.1 bt258.2.2.2.2.2.1 bt258.2.2.2.2.2.2.1).bind fun t270 => (if t270 = true then ((offertoryref09_Same.f kj2 t247 t250 t251 t252 t253 t254 t255 bt258.1 bt258.2.1 bt258.2.2.1 bt258.2.2.2.1 bt258.2.2.2.2.1 bt258.2.2.2.2.2.1 bt258.2.2.2.2.2.2.1).bind fun t271 => (some t271)) else (none))) else (none)) else (none)) else (none)))) = some r := H
        have A15 := Aside0.mk A150
        clear A150
        replace H := Option.bind_eq_some_iff.mp H
        obtain ⟨⟨t258, t261, t262, t263, t264, t265, t266, t267⟩, A160, H⟩ := H
        replace H : ((offertorylaw13_awake.f kj2).bind fun t269 => (if t269 = true then (if t256 = 0 then (if t267 = 0 then ((stats_Same.f kj2 t247 t250 t251 t252 t253 t254 t255 t258 t261 t262 t263 t264 t265 t266).bind fun t270 => (if t270 = true then ((offertoryref09_Same.f kj2 t247 t250 t251 t252 t253 t254 t255 t258 t261 t262 t263 t264 t265 t266).bind fun t271 => (some t271)) else (none))) else (none)) else (none)) else (none))) = some r := H
        have A16 := Aside0.mk A160
        clear A160
        replace H := Option.bind_eq_some_iff.mp H
        obtain ⟨t269, A170, H⟩ := H
        replace H : (if t269 = true then (if t256 = 0 then (if t267 = 0 then ((stats_Same.f kj2 t247 t250 t251 t252 t253 t254 t255 t258 t261 t262 t263 t264 t265 t266).bind fun t270 => (if t270 = true then ((offertoryref09_Same.f kj2 t247 t250 t251 t252 t253 t254 t255 t258 t261 t262 t263 t264 t265 t266).bind fun t271 => (some t271)) else (none))) else (none)) else (none)) else (none)) = some r := H
        have A17 := Aside0.mk A170
        clear A170
        by_cases c18 : t269 = true
        · subst c18
          have H1 : (if t256 = 0 then (if t267 = 0 then ((stats_Same.f kj2 t247 t250 t251 t252 t253 t254 t255 t258 t261 t262 t263 t264 t265 t266).bind fun t270 => (if t270 = true then ((offertoryref09_Same.f kj2 t247 t250 t251 t252 t253 t254 t255 t258 t261 t262 t263 t264 t265 t266).bind fun t271 => (some t271)) else (none))) else (none)) else (none)) = some r := by rw [if_pos rfl] at H; exact H
          clear H
          have H := H1
          clear H1
          by_cases c19 : t256 = 0
          · rw [if_pos c19] at H
            have c19b0 : (t256 == 0) = true := beq_iff_eq.mpr c19
            have c19b1 : (t256 != 0) = false := bne_eq_false_iff_eq.mpr c19
            clear c19
            by_cases c20 : t267 = 0
            · rw [if_pos c20] at H
              have c20b0 : (t267 == 0) = true := beq_iff_eq.mpr c20
              have c20b1 : (t267 != 0) = false := bne_eq_false_iff_eq.mpr c20
              clear c20
              replace H := Option.bind_eq_some_iff.mp H
              obtain ⟨t270, A210, H⟩ := H
              replace H : (if t270 = true then ((offertoryref09_Same.f kj2 t247 t250 t251 t252 t253 t254 t255 t258 t261 t262 t263 t264 t265 t266).bind fun t271 => (some t271)) else (none)) = some r := H
              have A21 := Aside0.mk A210
              clear A210
              by_cases c22 : t270 = true
              · subst c22
                have H1 : ((offertoryref09_Same.f kj2 t247 t250 t251 t252 t253 t254 t255 t258 t261 t262 t263 t264 t265 t266).bind fun t271 => (some t271)) = some r := by rw [if_pos rfl] at H; exact H
                clear H
                have H := H1
                clear H1
                replace H := Option.bind_eq_some_iff.mp H
                obtain ⟨t271, A230, H⟩ := H
                replace H : (some t271) = some r := H
                have A23 := Aside0.mk A230
                clear A230
                obtain rfl := Option.some.inj H
                try go_wp2
                have n0_ := Aside0.mk (blk_drew BK241.out)
                have n1_ := Aside0.mk (below_drew1 HB.out)
                clear BK241
                clear HB
                have BK241 := n0_
                have HB := n1_
                clear n0_ n1_
                refine start_ (n := 11) (S := fun w' => w'.cell? ⟨gb241, 0, none⟩ = some (.int .i64 a0_0) ∧ w'.cell? ⟨gb241, 1, none⟩ = some (.int .i64 a0_1) ∧ w'.cell? ⟨gb241, 2, none⟩ = some (.int .i64 a0_2) ∧ w'.cell? ⟨gb241, 3, none⟩ = some (.slice A0_3 l0_3.length c0_3)) (ds := []) #[false, false, false, false, false, false, false, false, false, false, false] (by kernel_rfl) rfl rfl ⟨(blk_cell BK241.out 0).trans rfl, (blk_cell BK241.out 1).trans rfl, (blk_cell BK241.out 2).trans rfl, (blk_cell BK241.out 3).trans rfl⟩ (fun hHeld => ?_); refine with_tabW offertorylaw13_StatsBack.tab3 offertorylaw13_StatsBack.bits3 (fun HT_ HW_ => ?_)
                generalize wc.drew = w24 at BK241 HB hHeld ⊢
                refine pure_ (i := 2) (N := some 21) (v := ?_) (a' := ?_) #[false, false, true, false, false, false, false, false, false, false, false] rfl rfl (any_of HT_.out (by kernel_rfl)) (fun _ _ _ h => h) (Or.inl ⟨by rfl, ?_⟩) ?_ ?_
                rotate_left
                · intro w'
                  (try simp only [add_plain] at s0 s1 s2 s3)
                  go_simp
                  with_reducible rfl
                rotate_left
                · simp only [Act.put, List.setIfInBounds_toArray, List.set_cons_zero, List.set_cons_succ, i64_w, i32_w]
                  rfl
                refine take_ (i := 0) (N := some 19) (v := ?_) (a' := ?_) #[true, false, true, false, false, false, false, false, false, false, false] rfl rfl (take_ofW HT_.out HW_.out (by kernel_rfl)) (fun _ _ _ h => h) (Or.inl ⟨by rfl, ?_⟩) hHeld ?_ ?_
                rotate_left
                · rintro w' ⟨s0, s1, s2, s3⟩
                  (try simp only [add_plain] at s0 s1 s2 s3)
                  go_simp
                  with_reducible rfl
                rotate_left
                · simp only [Act.put, List.setIfInBounds_toArray, List.set_cons_zero, List.set_cons_succ, i64_w, i32_w]
                  rfl
                refine take_ (i := 1) (N := some 20) (v := ?_) (a' := ?_) #[true, true, true, false, false, false, false, false, false, false, false] rfl rfl (take_ofW HT_.out HW_.out (by kernel_rfl)) (fun _ _ _ h => h) (Or.inl ⟨by rfl, ?_⟩) hHeld ?_ ?_
                rotate_left
                · rintro w' ⟨s0, s1, s2, s3⟩
                  (try simp only [add_plain] at s0 s1 s2 s3)
                  go_simp
                  with_reducible rfl
                rotate_left
                · simp only [Act.put, List.setIfInBounds_toArray, List.set_cons_zero, List.set_cons_succ, i64_w, i32_w]
                  rfl
                refine join_ (σ := Value × Value × Nat) 2 #[true, true, true, true, true, true, true, true, true, false, false] (fun s_ => [(22, s_.1), (23, .tuple #[.agg #[s_.2.1, .int .i64 t250, .int .u64 t251, .int .u64 t252, .int .u64 t253, .int .u64 t254, .bool t255], .int .i64 t256]), (5, .pointer (some ⟨s_.2.2, 0, none⟩)), (18, .tuple #[.agg #[s_.2.1, .int .i64 t250, .int .u64 t251, .int .u64 t252, .int .u64 t253, .int .u64 t254, .bool t255], .int .i64 t256]), (24, .agg #[s_.2.1, .int .i64 t250, .int .u64 t251, .int .u64 t252, .int .u64 t253, .int .u64 t254, .bool t255]), (25, .int .i64 t256)]) (fun s_ w' => (w'.cell? ⟨gb241, 0, none⟩ = some (.int .i64 a0_0) ∧ w'.cell? ⟨gb241, 1, none⟩ = some (.int .i64 a0_1) ∧ w'.cell? ⟨gb241, 2, none⟩ = some (.int .i64 a0_2) ∧ w'.cell? ⟨gb241, 3, none⟩ = some (.slice A0_3 l0_3.length c0_3)) ∧ (Kd.R (Kd.int .u32) 43 w' w.heap.size (fun _ => True) s_.1 t244) ∧ (Kd.R (Kd.int .i64) 3 w' w.heap.size (fun _ => True) s_.2.1 t247) ∧ (w'.heap[gb241]? = some (.cells #[.int .i64 a0_0, .int .i64 a0_1, .int .i64 a0_2, .slice A0_3 l0_3.length c0_3] 24 (0, 0))) ∧ (w'.heap[s_.2.2]? = some (.cells #[.slice none 0 0, .int .i64 0, .int .u64 0, .int .u64 0, .int .u64 0, .int .u64 0, .bool false] 29 (0, 0))) ∧ (w.heap.size ≤ s_.2.2) ∧ (w.heap.size ≤ s_.2.2) ∧ (gb241 ≠ s_.2.2) ∧ (s_.2.2 ≠ gb241) ∧ (Below w.heap.size w w')) ?_ ?_
                rotate_left
                · intro hCont
                  refine two_ (i := 3) (j := 8) (Ni := some 22) (Nj := some 5) #[true, true, true, true, false, false, false, false, false, false, false] #[true, true, true, false, false, false, false, false, true, false, false] rfl rfl rfl rfl (two_of HT_.out (by kernel_rfl)) (by decide) (by decide) (fun K hK => ?_) (fun K hK => ?_)
                  · skip
                    refine goes_ Try.func16 (by kernel_rfl) rfl #[.agg #[.int .i64 a0_0, .int .i64 a0_1, .int .i64 a0_2, .slice A0_3 l0_3.length c0_3], .slice A1 l1.length c1] (by rfl) rfl rfl (by (try simp only [List.map_toArray, List.map_cons, List.map_nil]); first | done | rfl | (simp only [List.length_drop, List.length_take]; rfl)) ?_
                    with_reducible refine (offertoryref09_Encode.calls kj2 a0_0 a0_1 a0_2 _ _ l0_3 _ _ l1 t244 _ ?side1 ?side2 ?side3 ?side4 A14.out).mono ?_
                    (case side1 => repeat (first | exact (Kd.C_below HR0_3.out HB.out) | (with_reducible refine Kd.C_alloc ?_ _) | (with_reducible refine Kd.C_drewN ?_ _) | (with_reducible refine Kd.C_drew ?_)))
                    (case side2 => exact HC0_3.out)
                    (case side3 => repeat (first | exact (Kd.C_below HR1.out HB.out) | (with_reducible refine Kd.C_alloc ?_ _) | (with_reducible refine Kd.C_drewN ?_ _) | (with_reducible refine Kd.C_drew ?_)))
                    (case side4 => exact HC1.out)
                    rintro e w25 ⟨v245, rfl, ho0, hb⟩
                    refine ⟨_, rfl, ?_⟩
                    have n0_ := Aside0.mk (Kd.R_lower ho0 (below_size (by repeat (first | (with_reducible first | exact HB.out | apply below_alloc | apply pw_below_drewN | apply below_drew1 | refine below_set ?_ GE241.out) | exact HB.out))))
                    have n1_ := offertorylaw13_StatsBack.keepB BK241 hb
                    have n2_ := Aside0.mk (below_step (by repeat (first | (with_reducible first | exact HB.out | apply below_alloc | apply pw_below_drewN | apply below_drew1 | refine below_set ?_ GE241.out) | exact HB.out)) hb)
                    clear BK241
                    clear HB
                    have HO246 := n0_
                    have BK241 := n1_
                    have HB := n2_
                    clear n0_ n1_ n2_
                    (try clear hb)
                    (try clear hb2)
                    (try clear hk)
                    (try clear hi)
                    (try clear ho0)
                    obtain ⟨Ao26, co26, eo26⟩ := Kd.R_slice HO246.out
                    (first | subst eo26 | (injection eo26 with f1_ f2_ f3_; have f4_ := f1_.symm; have f5_ := f3_.symm; clear f1_ f2_ f3_; subst f4_; subst f5_))
                    refine hK.out _ _ ⟨(blk_cell BK241.out 0).trans rfl, (blk_cell BK241.out 1).trans rfl, (blk_cell BK241.out 2).trans rfl, (blk_cell BK241.out 3).trans rfl⟩ (fun hHeld => ?_)
                    clear hK K
                    refine norm_ (a' := ?_) ?_ ?_
                    rotate_left
                    · show Act.put _ (some 22) _ = _
                      simp only [Act.put, List.setIfInBounds_toArray, List.set_cons_zero, List.set_cons_succ, i64_w, i32_w]
                      rfl
                    refine two_ (i := 4) (j := 8) (Ni := some 23) (Nj := some 5) #[true, true, true, true, true, false, false, false, false, false, false] #[true, true, true, true, false, false, false, false, true, false, false] rfl rfl rfl rfl (two_of HT_.out (by kernel_rfl)) (by decide) (by decide) (fun K hK => ?_) (fun K hK => ?_)
                    · skip
                      refine goes_ Try.func13 (by kernel_rfl) rfl #[.agg #[.int .i64 a0_0, .int .i64 a0_1, .int .i64 a0_2, .slice A0_3 l0_3.length c0_3], .slice Ao26 t244.length co26] (by rfl) rfl rfl (by (try simp only [List.map_toArray, List.map_cons, List.map_nil]); first | done | rfl | (simp only [List.length_drop, List.length_take]; rfl)) ?_
                      with_reducible refine (stats_Decode.calls kj2 a0_0 a0_1 a0_2 _ _ l0_3 _ _ t244 t247 t250 t251 t252 t253 t254 t255 t256 _ ?side1 ?side2 ?side3 ?side4 A15.out).mono ?_
                      (case side1 => repeat (first | exact (Kd.C_below HR0_3.out HB.out) | (with_reducible refine Kd.C_alloc ?_ _) | (with_reducible refine Kd.C_drewN ?_ _) | (with_reducible refine Kd.C_drew ?_)))
                      (case side2 => exact HC0_3.out)
                      (case side3 => repeat (first | exact (Kd.R_reads' HO246.out).2.2 | (with_reducible refine Kd.C_alloc ?_ _) | (with_reducible refine Kd.C_drewN ?_ _) | (with_reducible refine Kd.C_drew ?_)))
                      (case side4 => exact (Kd.R_reads' HO246.out).2.1)
                      rintro e w27 ⟨v248, rfl, ho0, hb⟩
                      refine ⟨_, rfl, ?_⟩
                      have n0_ := Aside0.mk (Kd.R_below (by (with_reducible repeat (first | apply Kd.R_alloc | apply Kd.R_drewN | apply Kd.R_drew)); exact HO246.out) hb)
                      have n1_ := Aside0.mk (Kd.R_lower ho0 (below_size (by repeat (first | (with_reducible first | exact HB.out | apply below_alloc | apply pw_below_drewN | apply below_drew1 | refine below_set ?_ GE241.out) | exact HB.out))))
                      have n2_ := offertorylaw13_StatsBack.keepB BK241 hb
                      have n3_ := Aside0.mk (below_step (by repeat (first | (with_reducible first | exact HB.out | apply below_alloc | apply pw_below_drewN | apply below_drew1 | refine below_set ?_ GE241.out) | exact HB.out)) hb)
                      clear HO246
                      clear BK241
                      clear HB
                      have HO246 := n0_
                      have HO249 := n1_
                      have BK241 := n2_
                      have HB := n3_
                      clear n0_ n1_ n2_ n3_
                      (try clear hb)
                      (try clear hb2)
                      (try clear hk)
                      (try clear hi)
                      (try clear ho0)
                      refine hK.out _ _ ⟨(blk_cell BK241.out 0).trans rfl, (blk_cell BK241.out 1).trans rfl, (blk_cell BK241.out 2).trans rfl, (blk_cell BK241.out 3).trans rfl⟩ (fun hHeld => ?_)
                      clear hK K
                      refine norm_ (a' := ?_) ?_ ?_
                      rotate_left
                      · show Act.put _ (some 23) _ = _
                        simp only [Act.put, List.setIfInBounds_toArray, List.set_cons_zero, List.set_cons_succ, i64_w, i32_w]
                        rfl
                      refine pure_ (i := 5) (N := some 18) (v := ?_) (a' := ?_) #[true, true, true, true, true, true, false, false, false, false, false] rfl rfl (any_of HT_.out (by kernel_rfl)) (fun _ _ _ h => h) (Or.inl ⟨by rfl, ?_⟩) ?_ ?_
                      rotate_left
                      · intro w'
                        (try simp only [add_plain] at s0 s1 s2 s3)
                        go_simp
                        with_reducible rfl
                      rotate_left
                      · simp only [Act.put, List.setIfInBounds_toArray, List.set_cons_zero, List.set_cons_succ, i64_w, i32_w]
                        rfl
                      refine pure_ (i := 6) (N := some 24) (v := ?_) (a' := ?_) #[true, true, true, true, true, true, true, false, false, false, false] rfl rfl (any_of HT_.out (by kernel_rfl)) (fun _ _ _ h => h) (Or.inl ⟨by rfl, ?_⟩) ?_ ?_
                      rotate_left
                      · intro w'
                        (try simp only [add_plain] at s0 s1 s2 s3)
                        go_simp
                        with_reducible rfl
                      rotate_left
                      · simp only [Act.put, List.setIfInBounds_toArray, List.set_cons_zero, List.set_cons_succ, i64_w, i32_w]
                        rfl
                      refine pure_ (i := 7) (N := some 25) (v := ?_) (a' := ?_) #[true, true, true, true, true, true, true, true, false, false, false] rfl rfl (any_of HT_.out (by kernel_rfl)) (fun _ _ _ h => h) (Or.inl ⟨by rfl, ?_⟩) ?_ ?_
                      rotate_left
                      · intro w'
                        (try simp only [add_plain] at s0 s1 s2 s3)
                        go_simp
                        with_reducible rfl
                      rotate_left
                      · simp only [Act.put, List.setIfInBounds_toArray, List.set_cons_zero, List.set_cons_succ, i64_w, i32_w]
                        rfl
                      refine one_ (i := 8) (N := some 5) #[true, true, true, true, true, true, true, true, true, false, false] rfl rfl (one_of HT_.out (by kernel_rfl)) (by decide) (fun K hK => ?_)
                      refine box_step ?hg (N := 5) ?hd (cs := #[.slice none 0 0, .int .i64 0, .int .u64 0, .int .u64 0, .int .u64 0, .int .u64 0, .bool false]) (t := 29) ?hr ?_; (case hd => rfl); (case hg => rfl); (case hr => first | (go_simp; done) | (go_simp; rfl))
                      intro gb257 hg w28 hbox hb
                      have n0_ := Aside0.mk (Kd.R_below (by (with_reducible repeat (first | apply Kd.R_alloc | apply Kd.R_drewN | apply Kd.R_drew)); exact HO246.out) hb)
                      have n1_ := Aside0.mk (Kd.R_below (by (with_reducible repeat (first | apply Kd.R_alloc | apply Kd.R_drewN | apply Kd.R_drew)); exact HO249.out) hb)
                      have n2_ := offertorylaw13_StatsBack.keepB BK241 hb
                      have n3_ := Aside0.mk (below_step (by repeat (first | (with_reducible first | exact HB.out | apply below_alloc | apply pw_below_drewN | apply below_drew1 | refine below_set ?_ GE241.out) | exact HB.out)) hb)
                      have n4_ := Aside0.mk (hbox)
                      have n5_ := Aside0.mk ((by rw [hg]; exact (below_size (by repeat (first | (with_reducible first | exact HB.out | apply below_alloc | apply pw_below_drewN | apply below_drew1 | refine below_set ?_ GE241.out) | exact HB.out))) : w.heap.size ≤ gb257))
                      have n6_ := Aside0.mk ((by rw [hg]; exact (below_size (by repeat (first | (with_reducible first | exact HB.out | apply below_alloc | apply pw_below_drewN | apply below_drew1 | refine below_set ?_ GE241.out) | exact HB.out))) : w.heap.size ≤ gb257))
                      have n7_ := offertorylaw13_StatsBack.neL BK241 hg
                      have n8_ := offertorylaw13_StatsBack.neG BK241 hg
                      clear HO246
                      clear HO249
                      clear BK241
                      clear HB
                      have HO246 := n0_
                      have HO249 := n1_
                      have BK241 := n2_
                      have HB := n3_
                      have BK257 := n4_
                      have GW257 := n5_
                      have GE257 := n6_
                      have NB241_257 := n7_
                      have NB257_241 := n8_
                      clear n0_ n1_ n2_ n3_ n4_ n5_ n6_ n7_ n8_
                      clear hb hbox hg
                      refine hK.out _ _ ⟨(blk_cell BK241.out 0).trans rfl, (blk_cell BK241.out 1).trans rfl, (blk_cell BK241.out 2).trans rfl, (blk_cell BK241.out 3).trans rfl⟩ (fun hHeld => ?_)
                      clear hK K
                      refine norm_ (a' := ?_) ?_ ?_
                      rotate_left
                      · show Act.put _ (some 5) _ = _
                        simp only [Act.put, List.setIfInBounds_toArray, List.set_cons_zero, List.set_cons_succ, i64_w, i32_w]
                        rfl
                      exact norm_ (by simp only [putAll, Act.put, List.setIfInBounds_toArray, List.set_cons_zero, List.set_cons_succ]) (hCont (.slice Ao26 t244.length co26, v248, gb257) _ ⟨hHeld, (by (with_reducible repeat (first | apply Kd.R_alloc | apply Kd.R_drewN | apply Kd.R_drew)); exact HO246.out), (by (with_reducible repeat (first | apply Kd.R_alloc | apply Kd.R_drewN | apply Kd.R_drew)); exact HO249.out), (by (with_reducible repeat (first | refine blk_drewN ?_ _ | refine blk_drew ?_ | refine blk_alloc ?_ _)); exact BK241.out), (by (with_reducible repeat (first | refine blk_drewN ?_ _ | refine blk_drew ?_ | refine blk_alloc ?_ _)); exact BK257.out), GW257.out, GE257.out, NB241_257.out, NB257_241.out, (by repeat (first | (with_reducible first | exact HB.out | apply below_alloc | apply pw_below_drewN | apply below_drew1 | refine below_set ?_ GE241.out | refine below_set ?_ GE257.out) | exact HB.out))⟩)
                    · skip
                      refine box_step ?hg (N := 5) ?hd (cs := #[.slice none 0 0, .int .i64 0, .int .u64 0, .int .u64 0, .int .u64 0, .int .u64 0, .bool false]) (t := 29) ?hr ?_; (case hd => rfl); (case hg => rfl); (case hr => first | (go_simp; done) | (go_simp; rfl))
                      intro gb257 hg w26 hbox hb
                      have n0_ := Aside0.mk (Kd.R_below (by (with_reducible repeat (first | apply Kd.R_alloc | apply Kd.R_drewN | apply Kd.R_drew)); exact HO246.out) hb)
                      have n1_ := offertorylaw13_StatsBack.keepB BK241 hb
                      have n2_ := Aside0.mk (below_step (by repeat (first | (with_reducible first | exact HB.out | apply below_alloc | apply pw_below_drewN | apply below_drew1 | refine below_set ?_ GE241.out) | exact HB.out)) hb)
                      have n3_ := Aside0.mk (hbox)
                      have n4_ := Aside0.mk ((by rw [hg]; exact (below_size (by repeat (first | (with_reducible first | exact HB.out | apply below_alloc | apply pw_below_drewN | apply below_drew1 | refine below_set ?_ GE241.out) | exact HB.out))) : w.heap.size ≤ gb257))
                      have n5_ := Aside0.mk ((by rw [hg]; exact (below_size (by repeat (first | (with_reducible first | exact HB.out | apply below_alloc | apply pw_below_drewN | apply below_drew1 | refine below_set ?_ GE241.out) | exact HB.out))) : w.heap.size ≤ gb257))
                      have n6_ := offertorylaw13_StatsBack.neL BK241 hg
                      have n7_ := offertorylaw13_StatsBack.neG BK241 hg
                      clear HO246
                      clear BK241
                      clear HB
                      have HO246 := n0_
                      have BK241 := n1_
                      have HB := n2_
                      have BK257 := n3_
                      have GW257 := n4_
                      have GE257 := n5_
                      have NB241_257 := n6_
                      have NB257_241 := n7_
                      clear n0_ n1_ n2_ n3_ n4_ n5_ n6_ n7_
                      clear hb hbox hg
                      obtain ⟨Ao27, co27, eo27⟩ := Kd.R_slice HO246.out
                      (first | subst eo27 | (injection eo27 with f1_ f2_ f3_; have f4_ := f1_.symm; have f5_ := f3_.symm; clear f1_ f2_ f3_; subst f4_; subst f5_))
                      refine hK.out _ _ ⟨(blk_cell BK241.out 0).trans rfl, (blk_cell BK241.out 1).trans rfl, (blk_cell BK241.out 2).trans rfl, (blk_cell BK241.out 3).trans rfl⟩ (fun hHeld => ?_)
                      clear hK K
                      refine norm_ (a' := ?_) ?_ ?_
                      rotate_left
                      · show Act.put _ (some 5) _ = _
                        simp only [Act.put, List.setIfInBounds_toArray, List.set_cons_zero, List.set_cons_succ, i64_w, i32_w]
                        rfl
                      refine one_ (i := 4) (N := some 23) #[true, true, true, true, true, false, false, false, true, false, false] rfl rfl (one_of HT_.out (by kernel_rfl)) (by decide) (fun K hK => ?_)
                      refine goes_ Try.func13 (by kernel_rfl) rfl #[.agg #[.int .i64 a0_0, .int .i64 a0_1, .int .i64 a0_2, .slice A0_3 l0_3.length c0_3], .slice Ao27 t244.length co27] (by rfl) rfl rfl (by (try simp only [List.map_toArray, List.map_cons, List.map_nil]); first | done | rfl | (simp only [List.length_drop, List.length_take]; rfl)) ?_
                      with_reducible refine (stats_Decode.calls kj2 a0_0 a0_1 a0_2 _ _ l0_3 _ _ t244 t247 t250 t251 t252 t253 t254 t255 t256 _ ?side1 ?side2 ?side3 ?side4 A15.out).mono ?_
                      (case side1 => repeat (first | exact (Kd.C_below HR0_3.out HB.out) | (with_reducible refine Kd.C_alloc ?_ _) | (with_reducible refine Kd.C_drewN ?_ _) | (with_reducible refine Kd.C_drew ?_)))
                      (case side2 => exact HC0_3.out)
                      (case side3 => repeat (first | exact (Kd.R_reads' HO246.out).2.2 | (with_reducible refine Kd.C_alloc ?_ _) | (with_reducible refine Kd.C_drewN ?_ _) | (with_reducible refine Kd.C_drew ?_)))
                      (case side4 => exact (Kd.R_reads' HO246.out).2.1)
                      rintro e w28 ⟨v248, rfl, ho0, hb⟩
                      refine ⟨_, rfl, ?_⟩
                      have n0_ := Aside0.mk (Kd.R_below (by (with_reducible repeat (first | apply Kd.R_alloc | apply Kd.R_drewN | apply Kd.R_drew)); exact HO246.out) hb)
                      have n1_ := Aside0.mk (Kd.R_lower ho0 (below_size (by repeat (first | (with_reducible first | exact HB.out | apply below_alloc | apply pw_below_drewN | apply below_drew1 | refine below_set ?_ GE241.out | refine below_set ?_ GE257.out) | exact HB.out))))
                      have n2_ := offertorylaw13_StatsBack.keepB BK241 hb
                      have n3_ := offertorylaw13_StatsBack.keepB BK257 hb
                      have n4_ := Aside0.mk (below_step (by repeat (first | (with_reducible first | exact HB.out | apply below_alloc | apply pw_below_drewN | apply below_drew1 | refine below_set ?_ GE241.out | refine below_set ?_ GE257.out) | exact HB.out)) hb)
                      clear HO246
                      clear BK241
                      clear BK257
                      clear HB
                      have HO246 := n0_
                      have HO249 := n1_
                      have BK241 := n2_
                      have BK257 := n3_
                      have HB := n4_
                      clear n0_ n1_ n2_ n3_ n4_
                      (try clear hb)
                      (try clear hb2)
                      (try clear hk)
                      (try clear hi)
                      (try clear ho0)
                      refine hK.out _ _ ⟨(blk_cell BK241.out 0).trans rfl, (blk_cell BK241.out 1).trans rfl, (blk_cell BK241.out 2).trans rfl, (blk_cell BK241.out 3).trans rfl⟩ (fun hHeld => ?_)
                      clear hK K
                      refine norm_ (a' := ?_) ?_ ?_
                      rotate_left
                      · show Act.put _ (some 23) _ = _
                        simp only [Act.put, List.setIfInBounds_toArray, List.set_cons_zero, List.set_cons_succ, i64_w, i32_w]
                        rfl
                      refine pure_ (i := 5) (N := some 18) (v := ?_) (a' := ?_) #[true, true, true, true, true, true, false, false, true, false, false] rfl rfl (any_of HT_.out (by kernel_rfl)) (fun _ _ _ h => h) (Or.inl ⟨by rfl, ?_⟩) ?_ ?_
                      rotate_left
                      · intro w'
                        (try simp only [add_plain] at s0 s1 s2 s3)
                        go_simp
                        with_reducible rfl
                      rotate_left
                      · simp only [Act.put, List.setIfInBounds_toArray, List.set_cons_zero, List.set_cons_succ, i64_w, i32_w]
                        rfl
                      refine pure_ (i := 6) (N := some 24) (v := ?_) (a' := ?_) #[true, true, true, true, true, true, true, false, true, false, false] rfl rfl (any_of HT_.out (by kernel_rfl)) (fun _ _ _ h => h) (Or.inl ⟨by rfl, ?_⟩) ?_ ?_
                      rotate_left
                      · intro w'
                        (try simp only [add_plain] at s0 s1 s2 s3)
                        go_simp
                        with_reducible rfl
                      rotate_left
                      · simp only [Act.put, List.setIfInBounds_toArray, List.set_cons_zero, List.set_cons_succ, i64_w, i32_w]
                        rfl
                      refine pure_ (i := 7) (N := some 25) (v := ?_) (a' := ?_) #[true, true, true, true, true, true, true, true, true, false, false] rfl rfl (any_of HT_.out (by kernel_rfl)) (fun _ _ _ h => h) (Or.inl ⟨by rfl, ?_⟩) ?_ ?_
                      rotate_left
                      · intro w'
                        (try simp only [add_plain] at s0 s1 s2 s3)
                        go_simp
                        with_reducible rfl
                      rotate_left
                      · simp only [Act.put, List.setIfInBounds_toArray, List.set_cons_zero, List.set_cons_succ, i64_w, i32_w]
                        rfl
                      exact norm_ (by simp only [putAll, Act.put, List.setIfInBounds_toArray, List.set_cons_zero, List.set_cons_succ]) (hCont (.slice Ao27 t244.length co27, v248, gb257) _ ⟨hHeld, (by (with_reducible repeat (first | apply Kd.R_alloc | apply Kd.R_drewN | apply Kd.R_drew)); exact HO246.out), (by (with_reducible repeat (first | apply Kd.R_alloc | apply Kd.R_drewN | apply Kd.R_drew)); exact HO249.out), (by (with_reducible repeat (first | refine blk_drewN ?_ _ | refine blk_drew ?_ | refine blk_alloc ?_ _)); exact BK241.out), (by (with_reducible repeat (first | refine blk_drewN ?_ _ | refine blk_drew ?_ | refine blk_alloc ?_ _)); exact BK257.out), GW257.out, GE257.out, NB241_257.out, NB257_241.out, (by repeat (first | (with_reducible first | exact HB.out | apply below_alloc | apply pw_below_drewN | apply below_drew1 | refine below_set ?_ GE241.out | refine below_set ?_ GE257.out) | exact HB.out))⟩)
                  · skip
                    refine box_step ?hg (N := 5) ?hd (cs := #[.slice none 0 0, .int .i64 0, .int .u64 0, .int .u64 0, .int .u64 0, .int .u64 0, .bool false]) (t := 29) ?hr ?_; (case hd => rfl); (case hg => rfl); (case hr => first | (go_simp; done) | (go_simp; rfl))
                    intro gb257 hg w25 hbox hb
                    have n0_ := offertorylaw13_StatsBack.keepB BK241 hb
                    have n1_ := Aside0.mk (below_step (by repeat (first | (with_reducible first | exact HB.out | apply below_alloc | apply pw_below_drewN | apply below_drew1 | refine below_set ?_ GE241.out) | exact HB.out)) hb)
                    have n2_ := Aside0.mk (hbox)
                    have n3_ := Aside0.mk ((by rw [hg]; exact (below_size (by repeat (first | (with_reducible first | exact HB.out | apply below_alloc | apply pw_below_drewN | apply below_drew1 | refine below_set ?_ GE241.out) | exact HB.out))) : w.heap.size ≤ gb257))
                    have n4_ := Aside0.mk ((by rw [hg]; exact (below_size (by repeat (first | (with_reducible first | exact HB.out | apply below_alloc | apply pw_below_drewN | apply below_drew1 | refine below_set ?_ GE241.out) | exact HB.out))) : w.heap.size ≤ gb257))
                    have n5_ := offertorylaw13_StatsBack.neL BK241 hg
                    have n6_ := offertorylaw13_StatsBack.neG BK241 hg
                    clear BK241
                    clear HB
                    have BK241 := n0_
                    have HB := n1_
                    have BK257 := n2_
                    have GW257 := n3_
                    have GE257 := n4_
                    have NB241_257 := n5_
                    have NB257_241 := n6_
                    clear n0_ n1_ n2_ n3_ n4_ n5_ n6_
                    clear hb hbox hg
                    refine hK.out _ _ ⟨(blk_cell BK241.out 0).trans rfl, (blk_cell BK241.out 1).trans rfl, (blk_cell BK241.out 2).trans rfl, (blk_cell BK241.out 3).trans rfl⟩ (fun hHeld => ?_)
                    clear hK K
                    refine norm_ (a' := ?_) ?_ ?_
                    rotate_left
                    · show Act.put _ (some 5) _ = _
                      simp only [Act.put, List.setIfInBounds_toArray, List.set_cons_zero, List.set_cons_succ, i64_w, i32_w]
                      rfl
                    refine one_ (i := 3) (N := some 22) #[true, true, true, true, false, false, false, false, true, false, false] rfl rfl (one_of HT_.out (by kernel_rfl)) (by decide) (fun K hK => ?_)
                    refine goes_ Try.func16 (by kernel_rfl) rfl #[.agg #[.int .i64 a0_0, .int .i64 a0_1, .int .i64 a0_2, .slice A0_3 l0_3.length c0_3], .slice A1 l1.length c1] (by rfl) rfl rfl (by (try simp only [List.map_toArray, List.map_cons, List.map_nil]); first | done | rfl | (simp only [List.length_drop, List.length_take]; rfl)) ?_
                    with_reducible refine (offertoryref09_Encode.calls kj2 a0_0 a0_1 a0_2 _ _ l0_3 _ _ l1 t244 _ ?side1 ?side2 ?side3 ?side4 A14.out).mono ?_
                    (case side1 => repeat (first | exact (Kd.C_below HR0_3.out HB.out) | (with_reducible refine Kd.C_alloc ?_ _) | (with_reducible refine Kd.C_drewN ?_ _) | (with_reducible refine Kd.C_drew ?_)))
                    (case side2 => exact HC0_3.out)
                    (case side3 => repeat (first | exact (Kd.C_below HR1.out HB.out) | (with_reducible refine Kd.C_alloc ?_ _) | (with_reducible refine Kd.C_drewN ?_ _) | (with_reducible refine Kd.C_drew ?_)))
                    (case side4 => exact HC1.out)
                    rintro e w26 ⟨v245, rfl, ho0, hb⟩
                    refine ⟨_, rfl, ?_⟩
                    have n0_ := Aside0.mk (Kd.R_lower ho0 (below_size (by repeat (first | (with_reducible first | exact HB.out | apply below_alloc | apply pw_below_drewN | apply below_drew1 | refine below_set ?_ GE241.out | refine below_set ?_ GE257.out) | exact HB.out))))
                    have n1_ := offertorylaw13_StatsBack.keepB BK241 hb
                    have n2_ := offertorylaw13_StatsBack.keepB BK257 hb
                    have n3_ := Aside0.mk (below_step (by repeat (first | (with_reducible first | exact HB.out | apply below_alloc | apply pw_below_drewN | apply below_drew1 | refine below_set ?_ GE241.out | refine below_set ?_ GE257.out) | exact HB.out)) hb)
                    clear BK241
                    clear BK257
                    clear HB
                    have HO246 := n0_
                    have BK241 := n1_
                    have BK257 := n2_
                    have HB := n3_
                    clear n0_ n1_ n2_ n3_
                    (try clear hb)
                    (try clear hb2)
                    (try clear hk)
                    (try clear hi)
                    (try clear ho0)
                    obtain ⟨Ao27, co27, eo27⟩ := Kd.R_slice HO246.out
                    (first | subst eo27 | (injection eo27 with f1_ f2_ f3_; have f4_ := f1_.symm; have f5_ := f3_.symm; clear f1_ f2_ f3_; subst f4_; subst f5_))
                    refine hK.out _ _ ⟨(blk_cell BK241.out 0).trans rfl, (blk_cell BK241.out 1).trans rfl, (blk_cell BK241.out 2).trans rfl, (blk_cell BK241.out 3).trans rfl⟩ (fun hHeld => ?_)
                    clear hK K
                    refine norm_ (a' := ?_) ?_ ?_
                    rotate_left
                    · show Act.put _ (some 22) _ = _
                      simp only [Act.put, List.setIfInBounds_toArray, List.set_cons_zero, List.set_cons_succ, i64_w, i32_w]
                      rfl
                    refine one_ (i := 4) (N := some 23) #[true, true, true, true, true, false, false, false, true, false, false] rfl rfl (one_of HT_.out (by kernel_rfl)) (by decide) (fun K hK => ?_)
                    refine goes_ Try.func13 (by kernel_rfl) rfl #[.agg #[.int .i64 a0_0, .int .i64 a0_1, .int .i64 a0_2, .slice A0_3 l0_3.length c0_3], .slice Ao27 t244.length co27] (by rfl) rfl rfl (by (try simp only [List.map_toArray, List.map_cons, List.map_nil]); first | done | rfl | (simp only [List.length_drop, List.length_take]; rfl)) ?_
                    with_reducible refine (stats_Decode.calls kj2 a0_0 a0_1 a0_2 _ _ l0_3 _ _ t244 t247 t250 t251 t252 t253 t254 t255 t256 _ ?side1 ?side2 ?side3 ?side4 A15.out).mono ?_
                    (case side1 => repeat (first | exact (Kd.C_below HR0_3.out HB.out) | (with_reducible refine Kd.C_alloc ?_ _) | (with_reducible refine Kd.C_drewN ?_ _) | (with_reducible refine Kd.C_drew ?_)))
                    (case side2 => exact HC0_3.out)
                    (case side3 => repeat (first | exact (Kd.R_reads' HO246.out).2.2 | (with_reducible refine Kd.C_alloc ?_ _) | (with_reducible refine Kd.C_drewN ?_ _) | (with_reducible refine Kd.C_drew ?_)))
                    (case side4 => exact (Kd.R_reads' HO246.out).2.1)
                    rintro e w28 ⟨v248, rfl, ho0, hb⟩
                    refine ⟨_, rfl, ?_⟩
                    have n0_ := Aside0.mk (Kd.R_below (by (with_reducible repeat (first | apply Kd.R_alloc | apply Kd.R_drewN | apply Kd.R_drew)); exact HO246.out) hb)
                    have n1_ := Aside0.mk (Kd.R_lower ho0 (below_size (by repeat (first | (with_reducible first | exact HB.out | apply below_alloc | apply pw_below_drewN | apply below_drew1 | refine below_set ?_ GE241.out | refine below_set ?_ GE257.out) | exact HB.out))))
                    have n2_ := offertorylaw13_StatsBack.keepB BK241 hb
                    have n3_ := offertorylaw13_StatsBack.keepB BK257 hb
                    have n4_ := Aside0.mk (below_step (by repeat (first | (with_reducible first | exact HB.out | apply below_alloc | apply pw_below_drewN | apply below_drew1 | refine below_set ?_ GE241.out | refine below_set ?_ GE257.out) | exact HB.out)) hb)
                    clear HO246
                    clear BK241
                    clear BK257
                    clear HB
                    have HO246 := n0_
                    have HO249 := n1_
                    have BK241 := n2_
                    have BK257 := n3_
                    have HB := n4_
                    clear n0_ n1_ n2_ n3_ n4_
                    (try clear hb)
                    (try clear hb2)
                    (try clear hk)
                    (try clear hi)
                    (try clear ho0)
                    refine hK.out _ _ ⟨(blk_cell BK241.out 0).trans rfl, (blk_cell BK241.out 1).trans rfl, (blk_cell BK241.out 2).trans rfl, (blk_cell BK241.out 3).trans rfl⟩ (fun hHeld => ?_)
                    clear hK K
                    refine norm_ (a' := ?_) ?_ ?_
                    rotate_left
                    · show Act.put _ (some 23) _ = _
                      simp only [Act.put, List.setIfInBounds_toArray, List.set_cons_zero, List.set_cons_succ, i64_w, i32_w]
                      rfl
                    refine pure_ (i := 5) (N := some 18) (v := ?_) (a' := ?_) #[true, true, true, true, true, true, false, false, true, false, false] rfl rfl (any_of HT_.out (by kernel_rfl)) (fun _ _ _ h => h) (Or.inl ⟨by rfl, ?_⟩) ?_ ?_
                    rotate_left
                    · intro w'
                      (try simp only [add_plain] at s0 s1 s2 s3)
                      go_simp
                      with_reducible rfl
                    rotate_left
                    · simp only [Act.put, List.setIfInBounds_toArray, List.set_cons_zero, List.set_cons_succ, i64_w, i32_w]
                      rfl
                    refine pure_ (i := 6) (N := some 24) (v := ?_) (a' := ?_) #[true, true, true, true, true, true, true, false, true, false, false] rfl rfl (any_of HT_.out (by kernel_rfl)) (fun _ _ _ h => h) (Or.inl ⟨by rfl, ?_⟩) ?_ ?_
                    rotate_left
                    · intro w'
                      (try simp only [add_plain] at s0 s1 s2 s3)
                      go_simp
                      with_reducible rfl
                    rotate_left
                    · simp only [Act.put, List.setIfInBounds_toArray, List.set_cons_zero, List.set_cons_succ, i64_w, i32_w]
                      rfl
                    refine pure_ (i := 7) (N := some 25) (v := ?_) (a' := ?_) #[true, true, true, true, true, true, true, true, true, false, false] rfl rfl (any_of HT_.out (by kernel_rfl)) (fun _ _ _ h => h) (Or.inl ⟨by rfl, ?_⟩) ?_ ?_
                    rotate_left
                    · intro w'
                      (try simp only [add_plain] at s0 s1 s2 s3)
                      go_simp
                      with_reducible rfl
                    rotate_left
                    · simp only [Act.put, List.setIfInBounds_toArray, List.set_cons_zero, List.set_cons_succ, i64_w, i32_w]
                      rfl
                    exact norm_ (by simp only [putAll, Act.put, List.setIfInBounds_toArray, List.set_cons_zero, List.set_cons_succ]) (hCont (.slice Ao27 t244.length co27, v248, gb257) _ ⟨hHeld, (by (with_reducible repeat (first | apply Kd.R_alloc | apply Kd.R_drewN | apply Kd.R_drew)); exact HO246.out), (by (with_reducible repeat (first | apply Kd.R_alloc | apply Kd.R_drewN | apply Kd.R_drew)); exact HO249.out), (by (with_reducible repeat (first | refine blk_drewN ?_ _ | refine blk_drew ?_ | refine blk_alloc ?_ _)); exact BK241.out), (by (with_reducible repeat (first | refine blk_drewN ?_ _ | refine blk_drew ?_ | refine blk_alloc ?_ _)); exact BK257.out), GW257.out, GE257.out, NB241_257.out, NB257_241.out, (by repeat (first | (with_reducible first | exact HB.out | apply below_alloc | apply pw_below_drewN | apply below_drew1 | refine below_set ?_ GE241.out | refine below_set ?_ GE257.out) | exact HB.out))⟩)
                rintro ⟨v245, v248, gb257⟩ w29 ⟨hS_, h0_, h1_, h2_, h3_, h4_, h5_, h6_, h7_, h8_⟩
                have n0_ : Aside0 (Kd.R (Kd.int .u32) 43 w29 w.heap.size (fun _ => True) v245 t244) := ⟨h0_⟩
                have n1_ : Aside0 (Kd.R (Kd.int .i64) 3 w29 w.heap.size (fun _ => True) v248 t247) := ⟨h1_⟩
                have n2_ : Aside0 (w29.heap[gb241]? = some (.cells #[.int .i64 a0_0, .int .i64 a0_1, .int .i64 a0_2, .slice A0_3 l0_3.length c0_3] 24 (0, 0))) := ⟨h2_⟩
                have n3_ : Aside0 (w29.heap[gb257]? = some (.cells #[.slice none 0 0, .int .i64 0, .int .u64 0, .int .u64 0, .int .u64 0, .int .u64 0, .bool false] 29 (0, 0))) := ⟨h3_⟩
                have n4_ : Aside0 (w.heap.size ≤ gb257) := ⟨h4_⟩
                have n5_ : Aside0 (w.heap.size ≤ gb257) := ⟨h5_⟩
                have n6_ : Aside0 (gb241 ≠ gb257) := ⟨h6_⟩
                have n7_ : Aside0 (gb257 ≠ gb241) := ⟨h7_⟩
                have n8_ : Aside0 (Below w.heap.size w w29) := ⟨h8_⟩
                clear BK241
                clear HB
                clear h0_ h1_ h2_ h3_ h4_ h5_ h6_ h7_ h8_
                have HO246 := n0_
                have HO249 := n1_
                have BK241 := n2_
                have BK257 := n3_
                have GW257 := n4_
                have GE257 := n5_
                have NB241_257 := n6_
                have NB257_241 := n7_
                have HB := n8_
                clear n0_ n1_ n2_ n3_ n4_ n5_ n6_ n7_ n8_
                have hHeld : w29.cell? ⟨gb241, 0, none⟩ = some (.int .i64 a0_0) ∧ w29.cell? ⟨gb241, 1, none⟩ = some (.int .i64 a0_1) ∧ w29.cell? ⟨gb241, 2, none⟩ = some (.int .i64 a0_2) ∧ w29.cell? ⟨gb241, 3, none⟩ = some (.slice A0_3 l0_3.length c0_3) := hS_
                obtain ⟨Ao30, co30, eo30⟩ := Kd.R_slice HO249.out
                (first | subst eo30 | (injection eo30 with f1_ f2_ f3_; have f4_ := f1_.symm; have f5_ := f3_.symm; clear f1_ f2_ f3_; subst f4_; subst f5_))
                refine norm_ (a' := ?_) ?_ ?_
                rotate_left
                · simp only [putAll, Act.put, List.setIfInBounds_toArray, List.set_cons_zero, List.set_cons_succ]
                  rfl
                refine one_ (i := 9) (N := none) #[true, true, true, true, true, true, true, true, true, true, false] rfl rfl (one_of HT_.out (by kernel_rfl)) (by decide) (fun K hK => ?_)
                have hs31 : w29.cell? ⟨gb257, 0, none⟩ = some (.slice none 0 0) := (blk_cell BK257.out 0).trans rfl
                have hfs31 := blk_frozen BK257.out 0
                have hns31_0 := NB241_257.out
                have hms31_0 := NB257_241.out
                have hs32 : w29.cell? ⟨gb257, 1, none⟩ = some (.int .i64 0) := (blk_cell BK257.out 1).trans rfl
                have hfs32 := blk_frozen BK257.out 1
                have hns32_0 := NB241_257.out
                have hms32_0 := NB257_241.out
                have hs33 : w29.cell? ⟨gb257, 2, none⟩ = some (.int .u64 0) := (blk_cell BK257.out 2).trans rfl
                have hfs33 := blk_frozen BK257.out 2
                have hns33_0 := NB241_257.out
                have hms33_0 := NB257_241.out
                have hs34 : w29.cell? ⟨gb257, 3, none⟩ = some (.int .u64 0) := (blk_cell BK257.out 3).trans rfl
                have hfs34 := blk_frozen BK257.out 3
                have hns34_0 := NB241_257.out
                have hms34_0 := NB257_241.out
                have hs35 : w29.cell? ⟨gb257, 4, none⟩ = some (.int .u64 0) := (blk_cell BK257.out 4).trans rfl
                have hfs35 := blk_frozen BK257.out 4
                have hns35_0 := NB241_257.out
                have hms35_0 := NB257_241.out
                have hs36 : w29.cell? ⟨gb257, 5, none⟩ = some (.int .u64 0) := (blk_cell BK257.out 5).trans rfl
                have hfs36 := blk_frozen BK257.out 5
                have hns36_0 := NB241_257.out
                have hms36_0 := NB257_241.out
                have hs37 : w29.cell? ⟨gb257, 6, none⟩ = some (.bool false) := (blk_cell BK257.out 6).trans rfl
                have hfs37 := blk_frozen BK257.out 6
                have hns37_0 := NB241_257.out
                have hms37_0 := NB257_241.out
                refine skip_ (w1 := ?_) ?_ ?_ ?_ ?_
                rotate_left
                · rfl
                · rfl
                ·
                  go_simp
                  rfl
                refine hK.out _ _ ⟨((cell_far (p := ⟨gb257, _, none⟩) NB241_257.out _).trans (((cell_far (p := ⟨gb257, _, none⟩) NB241_257.out _).trans (((cell_far (p := ⟨gb257, _, none⟩) NB241_257.out _).trans (((cell_far (p := ⟨gb257, _, none⟩) NB241_257.out _).trans (((cell_far (p := ⟨gb257, _, none⟩) NB241_257.out _).trans (((cell_far (p := ⟨gb257, _, none⟩) NB241_257.out _).trans (((cell_far (p := ⟨gb257, _, none⟩) NB241_257.out _).trans (hHeld.1)))))))))))))), ((cell_far (p := ⟨gb257, _, none⟩) NB241_257.out _).trans (((cell_far (p := ⟨gb257, _, none⟩) NB241_257.out _).trans (((cell_far (p := ⟨gb257, _, none⟩) NB241_257.out _).trans (((cell_far (p := ⟨gb257, _, none⟩) NB241_257.out _).trans (((cell_far (p := ⟨gb257, _, none⟩) NB241_257.out _).trans (((cell_far (p := ⟨gb257, _, none⟩) NB241_257.out _).trans (((cell_far (p := ⟨gb257, _, none⟩) NB241_257.out _).trans (hHeld.2.1)))))))))))))), ((cell_far (p := ⟨gb257, _, none⟩) NB241_257.out _).trans (((cell_far (p := ⟨gb257, _, none⟩) NB241_257.out _).trans (((cell_far (p := ⟨gb257, _, none⟩) NB241_257.out _).trans (((cell_far (p := ⟨gb257, _, none⟩) NB241_257.out _).trans (((cell_far (p := ⟨gb257, _, none⟩) NB241_257.out _).trans (((cell_far (p := ⟨gb257, _, none⟩) NB241_257.out _).trans (((cell_far (p := ⟨gb257, _, none⟩) NB241_257.out _).trans (hHeld.2.2.1)))))))))))))), ((cell_far (p := ⟨gb257, _, none⟩) NB241_257.out _).trans (((cell_far (p := ⟨gb257, _, none⟩) NB241_257.out _).trans (((cell_far (p := ⟨gb257, _, none⟩) NB241_257.out _).trans (((cell_far (p := ⟨gb257, _, none⟩) NB241_257.out _).trans (((cell_far (p := ⟨gb257, _, none⟩) NB241_257.out _).trans (((cell_far (p := ⟨gb257, _, none⟩) NB241_257.out _).trans (((cell_far (p := ⟨gb257, _, none⟩) NB241_257.out _).trans (hHeld.2.2.2))))))))))))))⟩ (fun hHeld => ?_)
                clear hK K
                refine pure_ (i := 10) (N := some 6) (v := ?_) (a' := ?_) #[true, true, true, true, true, true, true, true, true, true, true] rfl rfl (any_of HT_.out (by kernel_rfl)) (fun _ _ _ h => h) (Or.inl ⟨by rfl, ?_⟩) ?_ ?_
                rotate_left
                · intro w'
                  (try simp only [add_plain] at s0 s1 s2 s3)
                  go_simp
                  with_reducible rfl
                rotate_left
                · simp only [Act.put, List.setIfInBounds_toArray, List.set_cons_zero, List.set_cons_succ, i64_w, i32_w]
                  rfl
                refine done_ (done_of HT_.out (by kernel_rfl)) ?_
                have hnb38 := NB241_257.out
                have hnc38 := NB257_241.out
                have hcz39_0 : w29.cell? ⟨gb241, 0, none⟩ = some (.int .i64 a0_0) := (blk_cell BK241.out 0).trans rfl
                have hcz39_1 : w29.cell? ⟨gb241, 1, none⟩ = some (.int .i64 a0_1) := (blk_cell BK241.out 1).trans rfl
                have hcz39_2 : w29.cell? ⟨gb241, 2, none⟩ = some (.int .i64 a0_2) := (blk_cell BK241.out 2).trans rfl
                have hcz39_3 : w29.cell? ⟨gb241, 3, none⟩ = some (.slice A0_3 l0_3.length c0_3) := (blk_cell BK241.out 3).trans rfl
                have hfz39_0 := blk_frozen BK241.out 0
                have hfz39_1 := blk_frozen BK241.out 1
                have hfz39_2 := blk_frozen BK241.out 2
                have hfz39_3 := blk_frozen BK241.out 3
                try go_wp2_with (first | ((with_reducible refine gate_callee (f := 8) rfl ?_); refine goesL_ (some 29) rfl rfl Try.func8 (by kernel_rfl) rfl #[.agg #[.int .i64 a0_0, .int .i64 a0_1, .int .i64 a0_2, .slice A0_3 l0_3.length c0_3], .slice A1 l1.length c1] rfl (by (try simp only [List.map_toArray, List.map_cons, List.map_nil]); first | done | rfl | (simp only [List.length_drop, List.length_take]; rfl)) ?_; (with_reducible refine (stats_Of.calls kj2 a0_0 a0_1 a0_2 _ _ l0_3 _ _ l1 t258 t261 t262 t263 t264 t265 t266 t267 _ ?side1 ?side2 ?side3 ?side4 A16.out).mono ?_); (case side1 => exact Kd.C_below HR0_3.out (by repeat (first | (with_reducible first | exact HB.out | apply below_alloc | apply pw_below_drewN | apply below_drew1 | refine below_set ?_ GE241.out | refine below_set ?_ GE257.out) | exact HB.out))); (case side2 => exact HC0_3.out); (case side3 => exact Kd.C_below HR1.out (by repeat (first | (with_reducible first | exact HB.out | apply below_alloc | apply pw_below_drewN | apply below_drew1 | refine below_set ?_ GE241.out | refine below_set ?_ GE257.out) | exact HB.out))); (case side4 => exact HC1.out); rintro e w40 ⟨v259, rfl, ho0, hb⟩; refine ⟨_, rfl, ?_⟩; have n0_ := Aside0.mk (Kd.R_below (by (with_reducible repeat (first | apply Kd.R_alloc | apply Kd.R_drewN | apply Kd.R_drew)); exact (Kd.R_mono (Kd.R_far (p := ⟨gb257, 6, none⟩) (Kd.R_far (p := ⟨gb257, 5, none⟩) (Kd.R_far (p := ⟨gb257, 4, none⟩) (Kd.R_far (p := ⟨gb257, 3, none⟩) (Kd.R_far (p := ⟨gb257, 2, none⟩) (Kd.R_far (p := ⟨gb257, 1, none⟩) (Kd.R_far (p := ⟨gb257, 0, none⟩) (Kd.R_types HO246.out BK257.out (by decide)) (fun _ hk => hk.2) (.slice Ao30 t247.length co30)) (fun _ hk => hk.2) (.int .i64 t250)) (fun _ hk => hk.2) (.int .u64 t251)) (fun _ hk => hk.2) (.int .u64 t252)) (fun _ hk => hk.2) (.int .u64 t253)) (fun _ hk => hk.2) (.int .u64 t254)) (fun _ hk => hk.2) (.bool t255)) (fun _ h_ => h_.1))) hb); have n1_ := Aside0.mk (Kd.R_elder' (by (with_reducible repeat (first | apply Kd.R_alloc | apply Kd.R_drewN | apply Kd.R_drew)); exact (Kd.R_mono (Kd.R_far (p := ⟨gb257, 6, none⟩) (Kd.R_far (p := ⟨gb257, 5, none⟩) (Kd.R_far (p := ⟨gb257, 4, none⟩) (Kd.R_far (p := ⟨gb257, 3, none⟩) (Kd.R_far (p := ⟨gb257, 2, none⟩) (Kd.R_far (p := ⟨gb257, 1, none⟩) (Kd.R_far (p := ⟨gb257, 0, none⟩) (Kd.R_types HO249.out BK257.out (by decide)) (fun _ hk => hk.2) (.slice Ao30 t247.length co30)) (fun _ hk => hk.2) (.int .i64 t250)) (fun _ hk => hk.2) (.int .u64 t251)) (fun _ hk => hk.2) (.int .u64 t252)) (fun _ hk => hk.2) (.int .u64 t253)) (fun _ hk => hk.2) (.int .u64 t254)) (fun _ hk => hk.2) (.bool t255)) (fun _ h_ => h_.1))) (Kd.R_base ho0) hb); have n2_ := Aside0.mk (Kd.R_lower (Kd.R_new' ho0 (Kd.R_lt (by (with_reducible repeat (first | apply Kd.R_alloc | apply Kd.R_drewN | apply Kd.R_drew)); exact (Kd.R_mono (Kd.R_far (p := ⟨gb257, 6, none⟩) (Kd.R_far (p := ⟨gb257, 5, none⟩) (Kd.R_far (p := ⟨gb257, 4, none⟩) (Kd.R_far (p := ⟨gb257, 3, none⟩) (Kd.R_far (p := ⟨gb257, 2, none⟩) (Kd.R_far (p := ⟨gb257, 1, none⟩) (Kd.R_far (p := ⟨gb257, 0, none⟩) (Kd.R_types HO249.out BK257.out (by decide)) (fun _ hk => hk.2) (.slice Ao30 t247.length co30)) (fun _ hk => hk.2) (.int .i64 t250)) (fun _ hk => hk.2) (.int .u64 t251)) (fun _ hk => hk.2) (.int .u64 t252)) (fun _ hk => hk.2) (.int .u64 t253)) (fun _ hk => hk.2) (.int .u64 t254)) (fun _ hk => hk.2) (.bool t255)) (fun _ h_ => h_.1))))) (below_size (by repeat (first | (with_reducible first | exact HB.out | apply below_alloc | apply pw_below_drewN | apply below_drew1 | refine below_set ?_ GE241.out | refine below_set ?_ GE257.out) | exact HB.out)))); have n3_ := Aside0.mk (blk_below (g := gb241) (o := .cells #[.int .i64 a0_0, .int .i64 a0_1, .int .i64 a0_2, .slice A0_3 l0_3.length c0_3] 24 (0, 0)) (by (repeat (first | (with_reducible first | refine blk_drewN ?_ _ | refine blk_drew ?_ | refine blk_alloc ?_ _) | refine blk_far ?_ NB241_257.out _)); (with_reducible repeat (first | refine blk_drewN ?_ _ | refine blk_drew ?_ | refine blk_alloc ?_ _)); exact BK241.out) hb); have n4_ := Aside0.mk (blk_below (g := gb257) (o := .cells #[.slice Ao30 t247.length co30, .int .i64 t250, .int .u64 t251, .int .u64 t252, .int .u64 t253, .int .u64 t254, .bool t255] 29 (0, 0)) (by (with_reducible repeat (first | refine blk_drewN ?_ _ | refine blk_drew ?_ | refine blk_alloc ?_ _)); refine blk_put (cs := #[.slice Ao30 t247.length co30, .int .i64 t250, .int .u64 t251, .int .u64 t252, .int .u64 t253, .int .u64 t254, .bool false]) ?_ 6 _ rfl; (with_reducible repeat (first | refine blk_drewN ?_ _ | refine blk_drew ?_ | refine blk_alloc ?_ _)); refine blk_put (cs := #[.slice Ao30 t247.length co30, .int .i64 t250, .int .u64 t251, .int .u64 t252, .int .u64 t253, .int .u64 0, .bool false]) ?_ 5 _ rfl; (with_reducible repeat (first | refine blk_drewN ?_ _ | refine blk_drew ?_ | refine blk_alloc ?_ _)); refine blk_put (cs := #[.slice Ao30 t247.length co30, .int .i64 t250, .int .u64 t251, .int .u64 t252, .int .u64 0, .int .u64 0, .bool false]) ?_ 4 _ rfl; (with_reducible repeat (first | refine blk_drewN ?_ _ | refine blk_drew ?_ | refine blk_alloc ?_ _)); refine blk_put (cs := #[.slice Ao30 t247.length co30, .int .i64 t250, .int .u64 t251, .int .u64 0, .int .u64 0, .int .u64 0, .bool false]) ?_ 3 _ rfl; (with_reducible repeat (first | refine blk_drewN ?_ _ | refine blk_drew ?_ | refine blk_alloc ?_ _)); refine blk_put (cs := #[.slice Ao30 t247.length co30, .int .i64 t250, .int .u64 0, .int .u64 0, .int .u64 0, .int .u64 0, .bool false]) ?_ 2 _ rfl; (with_reducible repeat (first | refine blk_drewN ?_ _ | refine blk_drew ?_ | refine blk_alloc ?_ _)); refine blk_put (cs := #[.slice Ao30 t247.length co30, .int .i64 0, .int .u64 0, .int .u64 0, .int .u64 0, .int .u64 0, .bool false]) ?_ 1 _ rfl; (with_reducible repeat (first | refine blk_drewN ?_ _ | refine blk_drew ?_ | refine blk_alloc ?_ _)); refine blk_put (cs := #[.slice none 0 0, .int .i64 0, .int .u64 0, .int .u64 0, .int .u64 0, .int .u64 0, .bool false]) ?_ 0 _ rfl; (with_reducible repeat (first | refine blk_drewN ?_ _ | refine blk_drew ?_ | refine blk_alloc ?_ _)); exact BK257.out) hb); have n5_ := Aside0.mk (below_step (by repeat (first | (with_reducible first | exact HB.out | apply below_alloc | apply pw_below_drewN | apply below_drew1 | refine below_set ?_ GE241.out | refine below_set ?_ GE257.out) | exact HB.out)) hb); clear HO246; clear HO249; clear BK241; clear BK257; clear HB; have HO246 := n0_; have HO249 := n1_; have HO260 := n2_; have BK241 := n3_; have BK257 := n4_; have HB := n5_; clear n0_ n1_ n2_ n3_ n4_ n5_; (try clear hb); (try clear hb2); (try clear hk); (try clear hi); (try clear ho0)) | ((with_reducible refine gate_dst (N := 7) rfl ?_); (try (refine gate_guard (by rfl) ?_; dsimp only)); refine box_event ?hg (N := 7) ?hd (cs := #[.slice none 0 0, .int .i64 0, .int .u64 0, .int .u64 0, .int .u64 0, .int .u64 0, .bool false]) (t := 29) ?hr ?_; (case hd => rfl); (case hg => rfl); (case hr => first | (go_simp; done) | (go_simp; rfl)); intro gb268 hg w41 hbox hb; have n0_ := Aside0.mk (Kd.R_below (by (with_reducible repeat (first | apply Kd.R_alloc | apply Kd.R_drewN | apply Kd.R_drew)); exact HO246.out) hb); have n1_ := Aside0.mk (Kd.R_below (by (with_reducible repeat (first | apply Kd.R_alloc | apply Kd.R_drewN | apply Kd.R_drew)); exact HO249.out) hb); have n2_ := Aside0.mk (Kd.R_below (by (with_reducible repeat (first | apply Kd.R_alloc | apply Kd.R_drewN | apply Kd.R_drew)); exact HO260.out) hb); have n3_ := offertorylaw13_StatsBack.keepB BK241 hb; have n4_ := offertorylaw13_StatsBack.keepB BK257 hb; have n5_ := Aside0.mk (below_step (by repeat (first | (with_reducible first | exact HB.out | apply below_alloc | apply pw_below_drewN | apply below_drew1 | refine below_set ?_ GE241.out | refine below_set ?_ GE257.out) | exact HB.out)) hb); have n6_ := Aside0.mk (hbox); have n7_ := Aside0.mk ((by rw [hg]; exact (below_size (by repeat (first | (with_reducible first | exact HB.out | apply below_alloc | apply pw_below_drewN | apply below_drew1 | refine below_set ?_ GE241.out | refine below_set ?_ GE257.out) | exact HB.out))) : w.heap.size ≤ gb268)); have n8_ := Aside0.mk ((by rw [hg]; exact (below_size (by repeat (first | (with_reducible first | exact HB.out | apply below_alloc | apply pw_below_drewN | apply below_drew1 | refine below_set ?_ GE241.out | refine below_set ?_ GE257.out) | exact HB.out))) : w.heap.size ≤ gb268)); have n9_ := offertorylaw13_StatsBack.neL BK241 hg; have n10_ := offertorylaw13_StatsBack.neG BK241 hg; have n11_ := offertorylaw13_StatsBack.neL BK257 hg; have n12_ := offertorylaw13_StatsBack.neG BK257 hg; clear HO246; clear HO249; clear HO260; clear BK241; clear BK257; clear HB; have HO246 := n0_; have HO249 := n1_; have HO260 := n2_; have BK241 := n3_; have BK257 := n4_; have HB := n5_; have BK268 := n6_; have GW268 := n7_; have GE268 := n8_; have NB241_268 := n9_; have NB268_241 := n10_; have NB257_268 := n11_; have NB268_257 := n12_; clear n0_ n1_ n2_ n3_ n4_ n5_ n6_ n7_ n8_ n9_ n10_ n11_ n12_; clear hb hbox hg; obtain ⟨Ao42, co42, eo42⟩ := Kd.R_slice HO260.out; subst eo42; have hnb43 := NB268_241.out; have hnc43 := NB241_268.out; have hnb44 := NB268_257.out; have hnc44 := NB257_268.out; have hcz45_0 : w41.cell? ⟨gb268, 0, none⟩ = some (.slice none 0 0) := (blk_cell BK268.out 0).trans rfl; have hcz45_1 : w41.cell? ⟨gb268, 1, none⟩ = some (.int .i64 0) := (blk_cell BK268.out 1).trans rfl; have hcz45_2 : w41.cell? ⟨gb268, 2, none⟩ = some (.int .u64 0) := (blk_cell BK268.out 2).trans rfl; have hcz45_3 : w41.cell? ⟨gb268, 3, none⟩ = some (.int .u64 0) := (blk_cell BK268.out 3).trans rfl; have hcz45_4 : w41.cell? ⟨gb268, 4, none⟩ = some (.int .u64 0) := (blk_cell BK268.out 4).trans rfl; have hcz45_5 : w41.cell? ⟨gb268, 5, none⟩ = some (.int .u64 0) := (blk_cell BK268.out 5).trans rfl; have hcz45_6 : w41.cell? ⟨gb268, 6, none⟩ = some (.bool false) := (blk_cell BK268.out 6).trans rfl; have hfz45_0 := blk_frozen BK268.out 0; have hfz45_1 := blk_frozen BK268.out 1; have hfz45_2 := blk_frozen BK268.out 2; have hfz45_3 := blk_frozen BK268.out 3; have hfz45_4 := blk_frozen BK268.out 4; have hfz45_5 := blk_frozen BK268.out 5; have hfz45_6 := blk_frozen BK268.out 6) | ((with_reducible refine gate_callee (f := 10) rfl ?_); refine goesL_ (some 32) rfl rfl Try.func10 (by kernel_rfl) rfl #[] rfl (by (try simp only [List.map_toArray, List.map_cons, List.map_nil]); first | done | rfl | (simp only [List.length_drop, List.length_take]; rfl)) ?_; (with_reducible refine (offertorylaw13_awake.calls kj2  true _ A17.out).mono ?_); rintro e w46 ⟨rfl, hb⟩; refine ⟨_, rfl, ?_⟩; have n0_ := Aside0.mk (Kd.R_below (by (with_reducible repeat (first | apply Kd.R_alloc | apply Kd.R_drewN | apply Kd.R_drew)); exact (Kd.R_mono (Kd.R_far (p := ⟨gb268, 6, none⟩) (Kd.R_far (p := ⟨gb268, 5, none⟩) (Kd.R_far (p := ⟨gb268, 4, none⟩) (Kd.R_far (p := ⟨gb268, 3, none⟩) (Kd.R_far (p := ⟨gb268, 2, none⟩) (Kd.R_far (p := ⟨gb268, 1, none⟩) (Kd.R_far (p := ⟨gb268, 0, none⟩) (Kd.R_types HO246.out BK268.out (by decide)) (fun _ hk => hk.2) (.slice Ao42 t258.length co42)) (fun _ hk => hk.2) (.int .i64 t261)) (fun _ hk => hk.2) (.int .u64 t262)) (fun _ hk => hk.2) (.int .u64 t263)) (fun _ hk => hk.2) (.int .u64 t264)) (fun _ hk => hk.2) (.int .u64 t265)) (fun _ hk => hk.2) (.bool t266)) (fun _ h_ => h_.1))) hb); have n1_ := Aside0.mk (Kd.R_below (by (with_reducible repeat (first | apply Kd.R_alloc | apply Kd.R_drewN | apply Kd.R_drew)); exact (Kd.R_mono (Kd.R_far (p := ⟨gb268, 6, none⟩) (Kd.R_far (p := ⟨gb268, 5, none⟩) (Kd.R_far (p := ⟨gb268, 4, none⟩) (Kd.R_far (p := ⟨gb268, 3, none⟩) (Kd.R_far (p := ⟨gb268, 2, none⟩) (Kd.R_far (p := ⟨gb268, 1, none⟩) (Kd.R_far (p := ⟨gb268, 0, none⟩) (Kd.R_types HO249.out BK268.out (by decide)) (fun _ hk => hk.2) (.slice Ao42 t258.length co42)) (fun _ hk => hk.2) (.int .i64 t261)) (fun _ hk => hk.2) (.int .u64 t262)) (fun _ hk => hk.2) (.int .u64 t263)) (fun _ hk => hk.2) (.int .u64 t264)) (fun _ hk => hk.2) (.int .u64 t265)) (fun _ hk => hk.2) (.bool t266)) (fun _ h_ => h_.1))) hb); have n2_ := Aside0.mk (Kd.R_below (by (with_reducible repeat (first | apply Kd.R_alloc | apply Kd.R_drewN | apply Kd.R_drew)); exact (Kd.R_mono (Kd.R_far (p := ⟨gb268, 6, none⟩) (Kd.R_far (p := ⟨gb268, 5, none⟩) (Kd.R_far (p := ⟨gb268, 4, none⟩) (Kd.R_far (p := ⟨gb268, 3, none⟩) (Kd.R_far (p := ⟨gb268, 2, none⟩) (Kd.R_far (p := ⟨gb268, 1, none⟩) (Kd.R_far (p := ⟨gb268, 0, none⟩) (Kd.R_types HO260.out BK268.out (by decide)) (fun _ hk => hk.2) (.slice Ao42 t258.length co42)) (fun _ hk => hk.2) (.int .i64 t261)) (fun _ hk => hk.2) (.int .u64 t262)) (fun _ hk => hk.2) (.int .u64 t263)) (fun _ hk => hk.2) (.int .u64 t264)) (fun _ hk => hk.2) (.int .u64 t265)) (fun _ hk => hk.2) (.bool t266)) (fun _ h_ => h_.1))) hb); have n3_ := Aside0.mk (blk_below (g := gb241) (o := .cells #[.int .i64 a0_0, .int .i64 a0_1, .int .i64 a0_2, .slice A0_3 l0_3.length c0_3] 24 (0, 0)) (by (repeat (first | (with_reducible first | refine blk_drewN ?_ _ | refine blk_drew ?_ | refine blk_alloc ?_ _) | refine blk_far ?_ NB241_268.out _)); (with_reducible repeat (first | refine blk_drewN ?_ _ | refine blk_drew ?_ | refine blk_alloc ?_ _)); exact BK241.out) hb); have n4_ := Aside0.mk (blk_below (g := gb257) (o := .cells #[.slice Ao30 t247.length co30, .int .i64 t250, .int .u64 t251, .int .u64 t252, .int .u64 t253, .int .u64 t254, .bool t255] 29 (0, 0)) (by (repeat (first | (with_reducible first | refine blk_drewN ?_ _ | refine blk_drew ?_ | refine blk_alloc ?_ _) | refine blk_far ?_ NB257_268.out _)); (with_reducible repeat (first | refine blk_drewN ?_ _ | refine blk_drew ?_ | refine blk_alloc ?_ _)); exact BK257.out) hb); have n5_ := Aside0.mk (blk_below (g := gb268) (o := .cells #[.slice Ao42 t258.length co42, .int .i64 t261, .int .u64 t262, .int .u64 t263, .int .u64 t264, .int .u64 t265, .bool t266] 29 (0, 0)) (by (with_reducible repeat (first | refine blk_drewN ?_ _ | refine blk_drew ?_ | refine blk_alloc ?_ _)); refine blk_put (cs := #[.slice Ao42 t258.length co42, .int .i64 t261, .int .u64 t262, .int .u64 t263, .int .u64 t264, .int .u64 t265, .bool false]) ?_ 6 _ rfl; (with_reducible repeat (first | refine blk_drewN ?_ _ | refine blk_drew ?_ | refine blk_alloc ?_ _)); refine blk_put (cs := #[.slice Ao42 t258.length co42, .int .i64 t261, .int .u64 t262, .int .u64 t263, .int .u64 t264, .int .u64 0, .bool false]) ?_ 5 _ rfl; (with_reducible repeat (first | refine blk_drewN ?_ _ | refine blk_drew ?_ | refine blk_alloc ?_ _)); refine blk_put (cs := #[.slice Ao42 t258.length co42, .int .i64 t261, .int .u64 t262, .int .u64 t263, .int .u64 0, .int .u64 0, .bool false]) ?_ 4 _ rfl; (with_reducible repeat (first | refine blk_drewN ?_ _ | refine blk_drew ?_ | refine blk_alloc ?_ _)); refine blk_put (cs := #[.slice Ao42 t258.length co42, .int .i64 t261, .int .u64 t262, .int .u64 0, .int .u64 0, .int .u64 0, .bool false]) ?_ 3 _ rfl; (with_reducible repeat (first | refine blk_drewN ?_ _ | refine blk_drew ?_ | refine blk_alloc ?_ _)); refine blk_put (cs := #[.slice Ao42 t258.length co42, .int .i64 t261, .int .u64 0, .int .u64 0, .int .u64 0, .int .u64 0, .bool false]) ?_ 2 _ rfl; (with_reducible repeat (first | refine blk_drewN ?_ _ | refine blk_drew ?_ | refine blk_alloc ?_ _)); refine blk_put (cs := #[.slice Ao42 t258.length co42, .int .i64 0, .int .u64 0, .int .u64 0, .int .u64 0, .int .u64 0, .bool false]) ?_ 1 _ rfl; (with_reducible repeat (first | refine blk_drewN ?_ _ | refine blk_drew ?_ | refine blk_alloc ?_ _)); refine blk_put (cs := #[.slice none 0 0, .int .i64 0, .int .u64 0, .int .u64 0, .int .u64 0, .int .u64 0, .bool false]) ?_ 0 _ rfl; (with_reducible repeat (first | refine blk_drewN ?_ _ | refine blk_drew ?_ | refine blk_alloc ?_ _)); exact BK268.out) hb); have n6_ := Aside0.mk (below_step (by repeat (first | (with_reducible first | exact HB.out | apply below_alloc | apply pw_below_drewN | apply below_drew1 | refine below_set ?_ GE241.out | refine below_set ?_ GE257.out | refine below_set ?_ GE268.out) | exact HB.out)) hb); clear HO246; clear HO249; clear HO260; clear BK241; clear BK257; clear BK268; clear HB; have HO246 := n0_; have HO249 := n1_; have HO260 := n2_; have BK241 := n3_; have BK257 := n4_; have BK268 := n5_; have HB := n6_; clear n0_ n1_ n2_ n3_ n4_ n5_ n6_; (try clear hb); (try clear hb2); (try clear hk); (try clear hi); have hcz47_0 : w46.cell? ⟨gb257, 0, none⟩ = some (.slice Ao30 t247.length co30) := (blk_cell BK257.out 0).trans rfl; have hcz47_1 : w46.cell? ⟨gb257, 1, none⟩ = some (.int .i64 t250) := (blk_cell BK257.out 1).trans rfl; have hcz47_2 : w46.cell? ⟨gb257, 2, none⟩ = some (.int .u64 t251) := (blk_cell BK257.out 2).trans rfl; have hcz47_3 : w46.cell? ⟨gb257, 3, none⟩ = some (.int .u64 t252) := (blk_cell BK257.out 3).trans rfl; have hcz47_4 : w46.cell? ⟨gb257, 4, none⟩ = some (.int .u64 t253) := (blk_cell BK257.out 4).trans rfl; have hcz47_5 : w46.cell? ⟨gb257, 5, none⟩ = some (.int .u64 t254) := (blk_cell BK257.out 5).trans rfl; have hcz47_6 : w46.cell? ⟨gb257, 6, none⟩ = some (.bool t255) := (blk_cell BK257.out 6).trans rfl; have hfz47_0 := blk_frozen BK257.out 0; have hfz47_1 := blk_frozen BK257.out 1; have hfz47_2 := blk_frozen BK257.out 2; have hfz47_3 := blk_frozen BK257.out 3; have hfz47_4 := blk_frozen BK257.out 4; have hfz47_5 := blk_frozen BK257.out 5; have hfz47_6 := blk_frozen BK257.out 6; have hcz48_0 : w46.cell? ⟨gb268, 0, none⟩ = some (.slice Ao42 t258.length co42) := (blk_cell BK268.out 0).trans rfl; have hcz48_1 : w46.cell? ⟨gb268, 1, none⟩ = some (.int .i64 t261) := (blk_cell BK268.out 1).trans rfl; have hcz48_2 : w46.cell? ⟨gb268, 2, none⟩ = some (.int .u64 t262) := (blk_cell BK268.out 2).trans rfl; have hcz48_3 : w46.cell? ⟨gb268, 3, none⟩ = some (.int .u64 t263) := (blk_cell BK268.out 3).trans rfl; have hcz48_4 : w46.cell? ⟨gb268, 4, none⟩ = some (.int .u64 t264) := (blk_cell BK268.out 4).trans rfl; have hcz48_5 : w46.cell? ⟨gb268, 5, none⟩ = some (.int .u64 t265) := (blk_cell BK268.out 5).trans rfl; have hcz48_6 : w46.cell? ⟨gb268, 6, none⟩ = some (.bool t266) := (blk_cell BK268.out 6).trans rfl; have hfz48_0 := blk_frozen BK268.out 0; have hfz48_1 := blk_frozen BK268.out 1; have hfz48_2 := blk_frozen BK268.out 2; have hfz48_3 := blk_frozen BK268.out 3; have hfz48_4 := blk_frozen BK268.out 4; have hfz48_5 := blk_frozen BK268.out 5; have hfz48_6 := blk_frozen BK268.out 6) | (go_at_call 17; (with_reducible refine (stats_Same.calls kj2 _ _ t247 t250 t251 t252 t253 t254 t255 _ _ t258 t261 t262 t263 t264 t265 t266 true _ ?side1 ?side2 ?side3 ?side4 A21.out).mono ?_); (case side1 => repeat (first | exact (Kd.R_reads' HO249.out).2.2 | (with_reducible refine Kd.C_alloc ?_ _) | (with_reducible refine Kd.C_drewN ?_ _) | (with_reducible refine Kd.C_drew ?_))); (case side2 => exact (Kd.R_reads' HO249.out).2.1); (case side3 => repeat (first | exact (Kd.R_reads' HO260.out).2.2 | (with_reducible refine Kd.C_alloc ?_ _) | (with_reducible refine Kd.C_drewN ?_ _) | (with_reducible refine Kd.C_drew ?_))); (case side4 => exact (Kd.R_reads' HO260.out).2.1); rintro e w49 ⟨rfl, hb⟩; have n0_ := Aside0.mk (Kd.R_below (by (with_reducible repeat (first | apply Kd.R_alloc | apply Kd.R_drewN | apply Kd.R_drew)); exact HO246.out) hb); have n1_ := Aside0.mk (Kd.R_below (by (with_reducible repeat (first | apply Kd.R_alloc | apply Kd.R_drewN | apply Kd.R_drew)); exact HO249.out) hb); have n2_ := Aside0.mk (Kd.R_below (by (with_reducible repeat (first | apply Kd.R_alloc | apply Kd.R_drewN | apply Kd.R_drew)); exact HO260.out) hb); have n3_ := offertorylaw13_StatsBack.keepB BK241 hb; have n4_ := offertorylaw13_StatsBack.keepB BK257 hb; have n5_ := offertorylaw13_StatsBack.keepB BK268 hb; have n6_ := Aside0.mk (below_step (by repeat (first | (with_reducible first | exact HB.out | apply below_alloc | apply pw_below_drewN | apply below_drew1 | refine below_set ?_ GE241.out | refine below_set ?_ GE257.out | refine below_set ?_ GE268.out) | exact HB.out)) hb); clear HO246; clear HO249; clear HO260; clear BK241; clear BK257; clear BK268; clear HB; have HO246 := n0_; have HO249 := n1_; have HO260 := n2_; have BK241 := n3_; have BK257 := n4_; have BK268 := n5_; have HB := n6_; clear n0_ n1_ n2_ n3_ n4_ n5_ n6_; (try clear hb); (try clear hb2); (try clear hk); (try clear hi); have hcz50_0 : w49.cell? ⟨gb257, 0, none⟩ = some (.slice Ao30 t247.length co30) := (blk_cell BK257.out 0).trans rfl; have hcz50_1 : w49.cell? ⟨gb257, 1, none⟩ = some (.int .i64 t250) := (blk_cell BK257.out 1).trans rfl; have hcz50_2 : w49.cell? ⟨gb257, 2, none⟩ = some (.int .u64 t251) := (blk_cell BK257.out 2).trans rfl; have hcz50_3 : w49.cell? ⟨gb257, 3, none⟩ = some (.int .u64 t252) := (blk_cell BK257.out 3).trans rfl; have hcz50_4 : w49.cell? ⟨gb257, 4, none⟩ = some (.int .u64 t253) := (blk_cell BK257.out 4).trans rfl; have hcz50_5 : w49.cell? ⟨gb257, 5, none⟩ = some (.int .u64 t254) := (blk_cell BK257.out 5).trans rfl; have hcz50_6 : w49.cell? ⟨gb257, 6, none⟩ = some (.bool t255) := (blk_cell BK257.out 6).trans rfl; have hfz50_0 := blk_frozen BK257.out 0; have hfz50_1 := blk_frozen BK257.out 1; have hfz50_2 := blk_frozen BK257.out 2; have hfz50_3 := blk_frozen BK257.out 3; have hfz50_4 := blk_frozen BK257.out 4; have hfz50_5 := blk_frozen BK257.out 5; have hfz50_6 := blk_frozen BK257.out 6; have hcz51_0 : w49.cell? ⟨gb268, 0, none⟩ = some (.slice Ao42 t258.length co42) := (blk_cell BK268.out 0).trans rfl; have hcz51_1 : w49.cell? ⟨gb268, 1, none⟩ = some (.int .i64 t261) := (blk_cell BK268.out 1).trans rfl; have hcz51_2 : w49.cell? ⟨gb268, 2, none⟩ = some (.int .u64 t262) := (blk_cell BK268.out 2).trans rfl; have hcz51_3 : w49.cell? ⟨gb268, 3, none⟩ = some (.int .u64 t263) := (blk_cell BK268.out 3).trans rfl; have hcz51_4 : w49.cell? ⟨gb268, 4, none⟩ = some (.int .u64 t264) := (blk_cell BK268.out 4).trans rfl; have hcz51_5 : w49.cell? ⟨gb268, 5, none⟩ = some (.int .u64 t265) := (blk_cell BK268.out 5).trans rfl; have hcz51_6 : w49.cell? ⟨gb268, 6, none⟩ = some (.bool t266) := (blk_cell BK268.out 6).trans rfl; have hfz51_0 := blk_frozen BK268.out 0; have hfz51_1 := blk_frozen BK268.out 1; have hfz51_2 := blk_frozen BK268.out 2; have hfz51_3 := blk_frozen BK268.out 3; have hfz51_4 := blk_frozen BK268.out 4; have hfz51_5 := blk_frozen BK268.out 5; have hfz51_6 := blk_frozen BK268.out 6) | (go_at_call 11; (with_reducible refine (offertoryref09_Same.calls kj2 _ _ t247 t250 t251 t252 t253 t254 t255 _ _ t258 t261 t262 t263 t264 t265 t266 t271 _ ?side1 ?side2 ?side3 ?side4 A23.out).mono ?_); (case side1 => repeat (first | exact (Kd.R_reads' HO249.out).2.2 | (with_reducible refine Kd.C_alloc ?_ _) | (with_reducible refine Kd.C_drewN ?_ _) | (with_reducible refine Kd.C_drew ?_))); (case side2 => exact (Kd.R_reads' HO249.out).2.1); (case side3 => repeat (first | exact (Kd.R_reads' HO260.out).2.2 | (with_reducible refine Kd.C_alloc ?_ _) | (with_reducible refine Kd.C_drewN ?_ _) | (with_reducible refine Kd.C_drew ?_))); (case side4 => exact (Kd.R_reads' HO260.out).2.1); rintro e w52 ⟨rfl, hb⟩; have n0_ := Aside0.mk (Kd.R_below (by (with_reducible repeat (first | apply Kd.R_alloc | apply Kd.R_drewN | apply Kd.R_drew)); exact HO246.out) hb); have n1_ := Aside0.mk (Kd.R_below (by (with_reducible repeat (first | apply Kd.R_alloc | apply Kd.R_drewN | apply Kd.R_drew)); exact HO249.out) hb); have n2_ := Aside0.mk (Kd.R_below (by (with_reducible repeat (first | apply Kd.R_alloc | apply Kd.R_drewN | apply Kd.R_drew)); exact HO260.out) hb); have n3_ := offertorylaw13_StatsBack.keepB BK241 hb; have n4_ := offertorylaw13_StatsBack.keepB BK257 hb; have n5_ := offertorylaw13_StatsBack.keepB BK268 hb; have n6_ := Aside0.mk (below_step (by repeat (first | (with_reducible first | exact HB.out | apply below_alloc | apply pw_below_drewN | apply below_drew1 | refine below_set ?_ GE241.out | refine below_set ?_ GE257.out | refine below_set ?_ GE268.out) | exact HB.out)) hb); clear HO246; clear HO249; clear HO260; clear BK241; clear BK257; clear BK268; clear HB; have HO246 := n0_; have HO249 := n1_; have HO260 := n2_; have BK241 := n3_; have BK257 := n4_; have BK268 := n5_; have HB := n6_; clear n0_ n1_ n2_ n3_ n4_ n5_ n6_; (try clear hb); (try clear hb2); (try clear hk); (try clear hi)))
                go_ret
                exact ⟨by first | rfl | (simp [errW_none, errW_some] <;> rfl) | (simp [*, errW_none, errW_some] <;> rfl), by repeat (first | (with_reducible first | exact HB.out | apply below_alloc | apply pw_below_drewN | apply below_drew1 | refine below_set ?_ GE241.out | refine below_set ?_ GE257.out | refine below_set ?_ GE268.out) | exact HB.out)⟩
              · replace c22 := Bool.eq_false_iff.mpr c22
                subst c22
                have H1 : (none) = some r := by rw [if_neg (show ¬ (false = true) by decide)] at H; exact H
                clear H
                have H := H1
                clear H1
                exact absurd H (by simp)
            · rw [if_neg c20] at H
              exact absurd H (by simp)
          · rw [if_neg c19] at H
            exact absurd H (by simp)
        · replace c18 := Bool.eq_false_iff.mpr c18
          subst c18
          have H1 : (none) = some r := by rw [if_neg (show ¬ (false = true) by decide)] at H; exact H
          clear H
          have H := H1
          clear H1
          exact absurd H (by simp)

end Go.Proofs.Ytdpekjffjobabaa.PAll
