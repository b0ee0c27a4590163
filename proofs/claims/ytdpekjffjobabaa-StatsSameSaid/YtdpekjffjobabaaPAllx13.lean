/- The Go functions that the laws reach, as Lean functions, and that each call comes to what its function says. Written by a program of this session (a turned copy of the kit's print). No condition beyond those that each theorem states. -/
import Derived.Test.YtdpekjffjobabaaPAllx0
import Derived.Test.YtdpekjffjobabaaPAllx8
namespace Go.Proofs.Ytdpekjffjobabaa.PAll
open Go.RowKit Go.Proofs.YtdpekjffjobabaaW.PrintWords Go.Proofs.YtdpekjffjobabaaW.PrintLast Go.Proofs.YtdpekjffjobabaaW.PrintMore
attribute [local go_sem] max2_int min2_int max_two min_two max_three min_three max_four min_four   -- for this text's walks alone
set_option linter.unusedVariables false
set_option linter.unusedSimpArgs false

/-! ### offertorylaw13_StatsSame: function 6 -/
def offertorylaw13_StatsSame.f (k : Nat) (l0_0 : List Int) (a0_1 : Int) (a0_2 : Int) (a0_3 : Int) (a0_4 : Int) (a0_5 : Int) (a0_6 : Bool) (l1_0 : List Int) (a1_1 : Int) (a1_2 : Int) (a1_3 : Int) (a1_4 : Int) (a1_5 : Int) (a1_6 : Bool) : Option (Bool) := (offertorylaw13_awake.f k).bind fun t556 => (if t556 = true then ((stats_Same.f k l0_0 a0_1 a0_2 a0_3 a0_4 a0_5 a0_6 l1_0 a1_1 a1_2 a1_3 a1_4 a1_5 a1_6).bind fun t557 => ((offertoryref09_Same.f k l0_0 a0_1 a0_2 a0_3 a0_4 a0_5 a0_6 l1_0 a1_1 a1_2 a1_3 a1_4 a1_5 a1_6).bind fun t558 => (some (t557 == t558)))) else (none))
theorem offertorylaw13_StatsSame.mono : ∀ a0 a1 a2 a3 a4 a5 a6 a7 a8 a9 a10 a11 a12 a13 k, LeO (offertorylaw13_StatsSame.f k a0 a1 a2 a3 a4 a5 a6 a7 a8 a9 a10 a11 a12 a13) (offertorylaw13_StatsSame.f (k + 1) a0 a1 a2 a3 a4 a5 a6 a7 a8 a9 a10 a11 a12 a13) := by
  intro a0 a1 a2 a3 a4 a5 a6 a7 a8 a9 a10 a11 a12 a13 k
  unfold offertorylaw13_StatsSame.f
  repeat' first
      | (with_reducible exact offertorylaw13_awake.mono _)
      | (with_reducible exact offertoryref09_Same.mono _ _ _ _ _ _ _ _ _ _ _ _ _ _ _)
      | (with_reducible exact stats_Same.mono _ _ _ _ _ _ _ _ _ _ _ _ _ _ _)
      | (with_reducible exact LeO.refl _)
      | (with_reducible exact LeO.none _)
      | (with_reducible refine LeO.ite ?_ ?_)
      | (with_reducible refine LeO.bind ?_ (fun _ => ?_))
      | exact offertorylaw13_awake.mono _
      | exact offertoryref09_Same.mono _ _ _ _ _ _ _ _ _ _ _ _ _ _ _
      | exact stats_Same.mono _ _ _ _ _ _ _ _ _ _ _ _ _ _ _
      | exact LeO.none _
      | refine LeO.ite ?_ ?_
      | refine LeO.bind ?_ (fun _ => ?_)
def offertorylaw13_StatsSame.T1 : Bool × List (List Nat × List Nat) := (true, [([], []), ([0, 0], [0]), ([1], [1]), ([1], [1]), ([2, 3, 1, 1], [1, 2, 3]), ([1], [1]), ([1], [1]), ([5, 6, 4, 1], [1, 5, 6]), ([4, 7, 1], [1, 4, 7]), ([1, 8], [1, 8]), ([9, 7, 0, 1, 2, 3, 4, 5, 6, 7, 8, 9], [9])])
def offertorylaw13_StatsSame.B1 : List Nat := [0, 1, 3, 3, 15, 3, 3, 127, 255, 511, 1023]
theorem offertorylaw13_StatsSame.tab1 : rtab .any (opsOf Try.f6 1) = offertorylaw13_StatsSame.T1 := by kernel_rfl
theorem offertorylaw13_StatsSame.bits1 : waitsOk offertorylaw13_StatsSame.T1.2 offertorylaw13_StatsSame.B1 = true := by kernel_rfl
set_option maxHeartbeats 8000000 in
set_option maxRecDepth 100000 in
theorem offertorylaw13_StatsSame.calls (k : Nat) (A0_0 : Option Addr) (c0_0 : Nat) (l0_0 : List Int) (a0_1 : Int) (a0_2 : Int) (a0_3 : Int) (a0_4 : Int) (a0_5 : Int) (a0_6 : Bool) (A1_0 : Option Addr) (c1_0 : Nat) (l1_0 : List Int) (a1_1 : Int) (a1_2 : Int) (a1_3 : Int) (a1_4 : Int) (a1_5 : Int) (a1_6 : Bool) (r : Bool) (w : World) (hr0_0 : Kd.C (Kd.int .i64) w A0_0 l0_0.length l0_0) (hc0_0 : l0_0.length ≤ c0_0) (hr1_0 : Kd.C (Kd.int .i64) w A1_0 l1_0.length l1_0) (hc1_0 : l1_0.length ≤ c1_0) (h : offertorylaw13_StatsSame.f k l0_0 a0_1 a0_2 a0_3 a0_4 a0_5 a0_6 l1_0 a1_1 a1_2 a1_3 a1_4 a1_5 a1_6 = some r) :
    Calls Try.prog 6 #[.agg #[.slice A0_0 l0_0.length c0_0, .int .i64 a0_1, .int .u64 a0_2, .int .u64 a0_3, .int .u64 a0_4, .int .u64 a0_5, .bool a0_6], .agg #[.slice A1_0 l1_0.length c1_0, .int .i64 a1_1, .int .u64 a1_2, .int .u64 a1_3, .int .u64 a1_4, .int .u64 a1_5, .bool a1_6]] w fun e w' => e = .returned (.bool r) ∧ Below w.heap.size w w' := by
  have hu29 := Try.underlying29
  have HR0_0 := Aside0.mk hr0_0
  have HC0_0 := Aside0.mk hc0_0
  clear hr0_0 hc0_0
  have HR1_0 := Aside0.mk hr1_0
  have HC1_0 := Aside0.mk hc1_0
  clear hr1_0 hc1_0
  have HB := Aside0.mk (Below.refl w.heap.size w)
  have H : ((offertorylaw13_awake.f k).bind fun t556 => (if t556 = true then ((stats_Same.f k l0_0 a0_1 a0_2 a0_3 a0_4 a0_5 a0_6 l1_0 a1_1 a1_2 a1_3 a1_4 a1_5 a1_6).bind fun t557 => ((offertoryref09_Same.f k l0_0 a0_1 a0_2 a0_3 a0_4 a0_5 a0_6 l1_0 a1_1 a1_2 a1_3 a1_4 a1_5 a1_6).bind fun t558 => (some (t557 == t558)))) else (none))) = some r := h
  clear h
  replace H := Option.bind_eq_some_iff.mp H
  obtain ⟨t556, A30, H⟩ := H
  replace H : (if t556 = true then ((stats_Same.f k l0_0 a0_1 a0_2 a0_3 a0_4 a0_5 a0_6 l1_0 a1_1 a1_2 a1_3 a1_4 a1_5 a1_6).bind fun t557 => ((offertoryref09_Same.f k l0_0 a0_1 a0_2 a0_3 a0_4 a0_5 a0_6 l1_0 a1_1 a1_2 a1_3 a1_4 a1_5 a1_6).bind fun t558 => (some (t557 == t558)))) else (none)) = some r := H
  have A3 := Aside0.mk A30
  clear A30
  by_cases c4 : t556 = true
  · subst c4
    have H1 : ((stats_Same.f k l0_0 a0_1 a0_2 a0_3 a0_4 a0_5 a0_6 l1_0 a1_1 a1_2 a1_3 a1_4 a1_5 a1_6).bind fun t557 => ((offertoryref09_Same.f k l0_0 a0_1 a0_2 a0_3 a0_4 a0_5 a0_6 l1_0 a1_1 a1_2 a1_3 a1_4 a1_5 a1_6).bind fun t558 => (some (t557 == t558)))) = some r := by rw [if_pos rfl] at H; exact H
    clear H
    have H := H1
    clear H1
    replace H := Option.bind_eq_some_iff.mp H
    obtain ⟨t557, A50, H⟩ := H
    replace H : ((offertoryref09_Same.f k l0_0 a0_1 a0_2 a0_3 a0_4 a0_5 a0_6 l1_0 a1_1 a1_2 a1_3 a1_4 a1_5 a1_6).bind fun t558 => (some (t557 == t558))) = some r := H
    have A5 := Aside0.mk A50
    clear A50
    replace H := Option.bind_eq_some_iff.mp H
    obtain ⟨t558, A60, H⟩ := H
    replace H : (some (t557 == t558)) = some r := H
    have A6 := Aside0.mk A60
    clear A60
    obtain rfl := Option.some.inj H
    go_enter Try.func6, Try.ntmps6
    try go_wp2_with (first | ((with_reducible refine gate_dst (N := 2) rfl ?_); refine box_event ?hg (N := 2) ?hd (cs := #[.slice A0_0 l0_0.length c0_0, .int .i64 a0_1, .int .u64 a0_2, .int .u64 a0_3, .int .u64 a0_4, .int .u64 a0_5, .bool a0_6]) (t := 29) ?hr ?_; (case hd => rfl); (case hg => rfl); (case hr => first | (go_simp; done) | (go_simp; rfl)); intro gb554 hg w7 hbox hb; have n0_ := Aside0.mk (below_step (by repeat (first | (with_reducible first | exact HB.out | apply below_alloc | apply pw_below_drewN | apply below_drew1) | exact HB.out)) hb); have n1_ := Aside0.mk (hbox); have n2_ := Aside0.mk ((by rw [hg]; exact (below_size (by repeat (first | (with_reducible first | exact HB.out | apply below_alloc | apply pw_below_drewN | apply below_drew1) | exact HB.out))) : w.heap.size ≤ gb554)); have n3_ := Aside0.mk ((by rw [hg]; exact (below_size (by repeat (first | (with_reducible first | exact HB.out | apply below_alloc | apply pw_below_drewN | apply below_drew1) | exact HB.out))) : w.heap.size ≤ gb554)); clear HB; have HB := n0_; have BK554 := n1_; have GW554 := n2_; have GE554 := n3_; clear n0_ n1_ n2_ n3_; clear hb hbox hg) | ((with_reducible refine gate_dst (N := 3) rfl ?_); refine box_event ?hg (N := 3) ?hd (cs := #[.slice A1_0 l1_0.length c1_0, .int .i64 a1_1, .int .u64 a1_2, .int .u64 a1_3, .int .u64 a1_4, .int .u64 a1_5, .bool a1_6]) (t := 29) ?hr ?_; (case hd => rfl); (case hg => rfl); (case hr => first | (go_simp; done) | (go_simp; rfl)); intro gb555 hg w8 hbox hb; have n0_ := Aside0.mk (blk_below (g := gb554) (o := .cells #[.slice A0_0 l0_0.length c0_0, .int .i64 a0_1, .int .u64 a0_2, .int .u64 a0_3, .int .u64 a0_4, .int .u64 a0_5, .bool a0_6] 29 (0, 0)) (by (with_reducible repeat (first | refine blk_drewN ?_ _ | refine blk_drew ?_ | refine blk_alloc ?_ _)); exact BK554.out) hb); have n1_ := Aside0.mk (below_step (by repeat (first | (with_reducible first | exact HB.out | apply below_alloc | apply pw_below_drewN | apply below_drew1 | refine below_set ?_ GE554.out) | exact HB.out)) hb); have n2_ := Aside0.mk (hbox); have n3_ := Aside0.mk ((by rw [hg]; exact (below_size (by repeat (first | (with_reducible first | exact HB.out | apply below_alloc | apply pw_below_drewN | apply below_drew1 | refine below_set ?_ GE554.out) | exact HB.out))) : w.heap.size ≤ gb555)); have n4_ := Aside0.mk ((by rw [hg]; exact (below_size (by repeat (first | (with_reducible first | exact HB.out | apply below_alloc | apply pw_below_drewN | apply below_drew1 | refine below_set ?_ GE554.out) | exact HB.out))) : w.heap.size ≤ gb555)); have n5_ := Aside0.mk ((by rw [hg]; exact Nat.ne_of_lt (blk_lt (g := gb554) (o := .cells #[.slice A0_0 l0_0.length c0_0, .int .i64 a0_1, .int .u64 a0_2, .int .u64 a0_3, .int .u64 a0_4, .int .u64 a0_5, .bool a0_6] 29 (0, 0)) (by (with_reducible repeat (first | refine blk_drewN ?_ _ | refine blk_drew ?_ | refine blk_alloc ?_ _)); exact BK554.out)) : gb554 ≠ gb555)); have n6_ := Aside0.mk ((by rw [hg]; exact Nat.ne_of_gt (blk_lt (g := gb554) (o := .cells #[.slice A0_0 l0_0.length c0_0, .int .i64 a0_1, .int .u64 a0_2, .int .u64 a0_3, .int .u64 a0_4, .int .u64 a0_5, .bool a0_6] 29 (0, 0)) (by (with_reducible repeat (first | refine blk_drewN ?_ _ | refine blk_drew ?_ | refine blk_alloc ?_ _)); exact BK554.out)) : gb555 ≠ gb554)); clear BK554; clear HB; have BK554 := n0_; have HB := n1_; have BK555 := n2_; have GW555 := n3_; have GE555 := n4_; have NB554_555 := n5_; have NB555_554 := n6_; clear n0_ n1_ n2_ n3_ n4_ n5_ n6_; clear hb hbox hg))
    have n0_ := Aside0.mk (blk_drew BK554.out)
    have n1_ := Aside0.mk (blk_drew BK555.out)
    have n2_ := Aside0.mk (below_drew1 HB.out)
    clear BK554
    clear BK555
    clear HB
    have BK554 := n0_
    have BK555 := n1_
    have HB := n2_
    clear n0_ n1_ n2_
    refine start_ (n := 11) (S := fun w' => w'.cell? ⟨gb554, 0, none⟩ = some (.slice A0_0 l0_0.length c0_0) ∧ w'.cell? ⟨gb554, 1, none⟩ = some (.int .i64 a0_1) ∧ w'.cell? ⟨gb554, 2, none⟩ = some (.int .u64 a0_2) ∧ w'.cell? ⟨gb554, 3, none⟩ = some (.int .u64 a0_3) ∧ w'.cell? ⟨gb554, 4, none⟩ = some (.int .u64 a0_4) ∧ w'.cell? ⟨gb554, 5, none⟩ = some (.int .u64 a0_5) ∧ w'.cell? ⟨gb554, 6, none⟩ = some (.bool a0_6) ∧ w'.cell? ⟨gb555, 0, none⟩ = some (.slice A1_0 l1_0.length c1_0) ∧ w'.cell? ⟨gb555, 1, none⟩ = some (.int .i64 a1_1) ∧ w'.cell? ⟨gb555, 2, none⟩ = some (.int .u64 a1_2) ∧ w'.cell? ⟨gb555, 3, none⟩ = some (.int .u64 a1_3) ∧ w'.cell? ⟨gb555, 4, none⟩ = some (.int .u64 a1_4) ∧ w'.cell? ⟨gb555, 5, none⟩ = some (.int .u64 a1_5) ∧ w'.cell? ⟨gb555, 6, none⟩ = some (.bool a1_6)) (ds := []) #[false, false, false, false, false, false, false, false, false, false, false] (by kernel_rfl) rfl rfl ⟨(blk_cell BK554.out 0).trans rfl, (blk_cell BK554.out 1).trans rfl, (blk_cell BK554.out 2).trans rfl, (blk_cell BK554.out 3).trans rfl, (blk_cell BK554.out 4).trans rfl, (blk_cell BK554.out 5).trans rfl, (blk_cell BK554.out 6).trans rfl, (blk_cell BK555.out 0).trans rfl, (blk_cell BK555.out 1).trans rfl, (blk_cell BK555.out 2).trans rfl, (blk_cell BK555.out 3).trans rfl, (blk_cell BK555.out 4).trans rfl, (blk_cell BK555.out 5).trans rfl, (blk_cell BK555.out 6).trans rfl⟩ (fun hHeld => ?_); refine with_tabW offertorylaw13_StatsSame.tab1 offertorylaw13_StatsSame.bits1 (fun HT_ HW_ => ?_)
    generalize w8.drew = w9 at BK554 BK555 HB hHeld ⊢
    refine one_ (i := 0) (N := some 5) #[true, false, false, false, false, false, false, false, false, false, false] rfl rfl (one_of HT_.out (by kernel_rfl)) (by decide) (fun K hK => ?_)
    refine goes_ Try.func10 (by kernel_rfl) rfl #[] (by rfl) rfl rfl (by (try simp only [List.map_toArray, List.map_cons, List.map_nil]); first | done | rfl | (simp only [List.length_drop, List.length_take]; rfl)) ?_
    with_reducible refine (offertorylaw13_awake.calls k  true _ A3.out).mono ?_
    rintro e w10 ⟨rfl, hb⟩
    refine ⟨_, rfl, ?_⟩
    have n0_ := Aside0.mk (blk_below (g := gb554) (o := .cells #[.slice A0_0 l0_0.length c0_0, .int .i64 a0_1, .int .u64 a0_2, .int .u64 a0_3, .int .u64 a0_4, .int .u64 a0_5, .bool a0_6] 29 (0, 0)) (by (with_reducible repeat (first | refine blk_drewN ?_ _ | refine blk_drew ?_ | refine blk_alloc ?_ _)); exact BK554.out) hb)
    have n1_ := Aside0.mk (blk_below (g := gb555) (o := .cells #[.slice A1_0 l1_0.length c1_0, .int .i64 a1_1, .int .u64 a1_2, .int .u64 a1_3, .int .u64 a1_4, .int .u64 a1_5, .bool a1_6] 29 (0, 0)) (by (with_reducible repeat (first | refine blk_drewN ?_ _ | refine blk_drew ?_ | refine blk_alloc ?_ _)); exact BK555.out) hb)
    have n2_ := Aside0.mk (below_step (by repeat (first | (with_reducible first | exact HB.out | apply below_alloc | apply pw_below_drewN | apply below_drew1 | refine below_set ?_ GE554.out | refine below_set ?_ GE555.out) | exact HB.out)) hb)
    clear BK554
    clear BK555
    clear HB
    have BK554 := n0_
    have BK555 := n1_
    have HB := n2_
    clear n0_ n1_ n2_
    (try clear hb)
    (try clear hb2)
    (try clear hk)
    (try clear hi)
    refine hK.out _ _ ⟨(blk_cell BK554.out 0).trans rfl, (blk_cell BK554.out 1).trans rfl, (blk_cell BK554.out 2).trans rfl, (blk_cell BK554.out 3).trans rfl, (blk_cell BK554.out 4).trans rfl, (blk_cell BK554.out 5).trans rfl, (blk_cell BK554.out 6).trans rfl, (blk_cell BK555.out 0).trans rfl, (blk_cell BK555.out 1).trans rfl, (blk_cell BK555.out 2).trans rfl, (blk_cell BK555.out 3).trans rfl, (blk_cell BK555.out 4).trans rfl, (blk_cell BK555.out 5).trans rfl, (blk_cell BK555.out 6).trans rfl⟩ (fun hHeld => ?_)
    clear hK K
    refine norm_ (a' := ?_) ?_ ?_
    rotate_left
    · show Act.put _ (some 5) _ = _
      simp only [Act.put, List.setIfInBounds_toArray, List.set_cons_zero, List.set_cons_succ, i64_w, i32_w]
      rfl
    refine pure_ (i := 1) (N := some 6) (v := ?_) (a' := ?_) #[true, true, false, false, false, false, false, false, false, false, false] rfl rfl (any_of HT_.out (by kernel_rfl)) (fun _ _ _ h => h) (Or.inl ⟨by rfl, ?_⟩) ?_ ?_
    rotate_left
    · intro w'
      (try simp only [add_plain] at s0 s1 s2 s3 s4 s5 s6 s7 s8 s9 s10 s11 s12 s13)
      go_simp
      with_reducible rfl
    rotate_left
    · simp only [Act.put, List.setIfInBounds_toArray, List.set_cons_zero, List.set_cons_succ, i64_w, i32_w]
      rfl
    refine take_ (i := 2) (N := some 7) (v := ?_) (a' := ?_) #[true, true, true, false, false, false, false, false, false, false, false] rfl rfl (take_ofW HT_.out HW_.out (by kernel_rfl)) (fun _ _ _ h => h) (Or.inl ⟨by rfl, ?_⟩) hHeld ?_ ?_
    rotate_left
    · rintro w' ⟨s0, s1, s2, s3, s4, s5, s6, s7, s8, s9, s10, s11, s12, s13⟩
      (try simp only [add_plain] at s0 s1 s2 s3 s4 s5 s6 s7 s8 s9 s10 s11 s12 s13)
      go_simp
      with_reducible rfl
    rotate_left
    · simp only [Act.put, List.setIfInBounds_toArray, List.set_cons_zero, List.set_cons_succ, i64_w, i32_w]
      rfl
    refine take_ (i := 3) (N := some 8) (v := ?_) (a' := ?_) #[true, true, true, true, false, false, false, false, false, false, false] rfl rfl (take_ofW HT_.out HW_.out (by kernel_rfl)) (fun _ _ _ h => h) (Or.inl ⟨by rfl, ?_⟩) hHeld ?_ ?_
    rotate_left
    · rintro w' ⟨s0, s1, s2, s3, s4, s5, s6, s7, s8, s9, s10, s11, s12, s13⟩
      (try simp only [add_plain] at s0 s1 s2 s3 s4 s5 s6 s7 s8 s9 s10 s11 s12 s13)
      go_simp
      with_reducible rfl
    rotate_left
    · simp only [Act.put, List.setIfInBounds_toArray, List.set_cons_zero, List.set_cons_succ, i64_w, i32_w]
      rfl
    refine take_ (i := 5) (N := some 10) (v := ?_) (a' := ?_) #[true, true, true, true, false, true, false, false, false, false, false] rfl rfl (take_ofW HT_.out HW_.out (by kernel_rfl)) (fun _ _ _ h => h) (Or.inl ⟨by rfl, ?_⟩) hHeld ?_ ?_
    rotate_left
    · rintro w' ⟨s0, s1, s2, s3, s4, s5, s6, s7, s8, s9, s10, s11, s12, s13⟩
      (try simp only [add_plain] at s0 s1 s2 s3 s4 s5 s6 s7 s8 s9 s10 s11 s12 s13)
      go_simp
      with_reducible rfl
    rotate_left
    · simp only [Act.put, List.setIfInBounds_toArray, List.set_cons_zero, List.set_cons_succ, i64_w, i32_w]
      rfl
    refine take_ (i := 6) (N := some 11) (v := ?_) (a' := ?_) #[true, true, true, true, false, true, true, false, false, false, false] rfl rfl (take_ofW HT_.out HW_.out (by kernel_rfl)) (fun _ _ _ h => h) (Or.inl ⟨by rfl, ?_⟩) hHeld ?_ ?_
    rotate_left
    · rintro w' ⟨s0, s1, s2, s3, s4, s5, s6, s7, s8, s9, s10, s11, s12, s13⟩
      (try simp only [add_plain] at s0 s1 s2 s3 s4 s5 s6 s7 s8 s9 s10 s11 s12 s13)
      go_simp
      with_reducible rfl
    rotate_left
    · simp only [Act.put, List.setIfInBounds_toArray, List.set_cons_zero, List.set_cons_succ, i64_w, i32_w]
      rfl
    refine one_ (i := 4) (N := some 9) #[true, true, true, true, true, true, true, false, false, false, false] rfl rfl (one_of HT_.out (by kernel_rfl)) (by decide) (fun K hK => ?_)
    refine goes_ Try.func17 (by kernel_rfl) rfl #[.agg #[.slice A0_0 l0_0.length c0_0, .int .i64 a0_1, .int .u64 a0_2, .int .u64 a0_3, .int .u64 a0_4, .int .u64 a0_5, .bool a0_6], .agg #[.slice A1_0 l1_0.length c1_0, .int .i64 a1_1, .int .u64 a1_2, .int .u64 a1_3, .int .u64 a1_4, .int .u64 a1_5, .bool a1_6]] (by rfl) rfl rfl (by (try simp only [List.map_toArray, List.map_cons, List.map_nil]); first | done | rfl | (simp only [List.length_drop, List.length_take]; rfl)) ?_
    with_reducible refine (stats_Same.calls k _ _ l0_0 a0_1 a0_2 a0_3 a0_4 a0_5 a0_6 _ _ l1_0 a1_1 a1_2 a1_3 a1_4 a1_5 a1_6 t557 _ ?side1 ?side2 ?side3 ?side4 A5.out).mono ?_
    (case side1 => repeat (first | exact (Kd.C_below HR0_0.out HB.out) | (with_reducible refine Kd.C_alloc ?_ _) | (with_reducible refine Kd.C_drewN ?_ _) | (with_reducible refine Kd.C_drew ?_)))
    (case side2 => exact HC0_0.out)
    (case side3 => repeat (first | exact (Kd.C_below HR1_0.out HB.out) | (with_reducible refine Kd.C_alloc ?_ _) | (with_reducible refine Kd.C_drewN ?_ _) | (with_reducible refine Kd.C_drew ?_)))
    (case side4 => exact HC1_0.out)
    rintro e w11 ⟨rfl, hb⟩
    refine ⟨_, rfl, ?_⟩
    have n0_ := Aside0.mk (blk_below (g := gb554) (o := .cells #[.slice A0_0 l0_0.length c0_0, .int .i64 a0_1, .int .u64 a0_2, .int .u64 a0_3, .int .u64 a0_4, .int .u64 a0_5, .bool a0_6] 29 (0, 0)) (by (with_reducible repeat (first | refine blk_drewN ?_ _ | refine blk_drew ?_ | refine blk_alloc ?_ _)); exact BK554.out) hb)
    have n1_ := Aside0.mk (blk_below (g := gb555) (o := .cells #[.slice A1_0 l1_0.length c1_0, .int .i64 a1_1, .int .u64 a1_2, .int .u64 a1_3, .int .u64 a1_4, .int .u64 a1_5, .bool a1_6] 29 (0, 0)) (by (with_reducible repeat (first | refine blk_drewN ?_ _ | refine blk_drew ?_ | refine blk_alloc ?_ _)); exact BK555.out) hb)
    have n2_ := Aside0.mk (below_step (by repeat (first | (with_reducible first | exact HB.out | apply below_alloc | apply pw_below_drewN | apply below_drew1 | refine below_set ?_ GE554.out | refine below_set ?_ GE555.out) | exact HB.out)) hb)
    clear BK554
    clear BK555
    clear HB
    have BK554 := n0_
    have BK555 := n1_
    have HB := n2_
    clear n0_ n1_ n2_
    (try clear hb)
    (try clear hb2)
    (try clear hk)
    (try clear hi)
    refine hK.out _ _ ⟨(blk_cell BK554.out 0).trans rfl, (blk_cell BK554.out 1).trans rfl, (blk_cell BK554.out 2).trans rfl, (blk_cell BK554.out 3).trans rfl, (blk_cell BK554.out 4).trans rfl, (blk_cell BK554.out 5).trans rfl, (blk_cell BK554.out 6).trans rfl, (blk_cell BK555.out 0).trans rfl, (blk_cell BK555.out 1).trans rfl, (blk_cell BK555.out 2).trans rfl, (blk_cell BK555.out 3).trans rfl, (blk_cell BK555.out 4).trans rfl, (blk_cell BK555.out 5).trans rfl, (blk_cell BK555.out 6).trans rfl⟩ (fun hHeld => ?_)
    clear hK K
    refine norm_ (a' := ?_) ?_ ?_
    rotate_left
    · show Act.put _ (some 9) _ = _
      simp only [Act.put, List.setIfInBounds_toArray, List.set_cons_zero, List.set_cons_succ, i64_w, i32_w]
      rfl
    refine one_ (i := 7) (N := some 12) #[true, true, true, true, true, true, true, true, false, false, false] rfl rfl (one_of HT_.out (by kernel_rfl)) (by decide) (fun K hK => ?_)
    refine goes_ Try.func11 (by kernel_rfl) rfl #[.agg #[.slice A0_0 l0_0.length c0_0, .int .i64 a0_1, .int .u64 a0_2, .int .u64 a0_3, .int .u64 a0_4, .int .u64 a0_5, .bool a0_6], .agg #[.slice A1_0 l1_0.length c1_0, .int .i64 a1_1, .int .u64 a1_2, .int .u64 a1_3, .int .u64 a1_4, .int .u64 a1_5, .bool a1_6]] (by rfl) rfl rfl (by (try simp only [List.map_toArray, List.map_cons, List.map_nil]); first | done | rfl | (simp only [List.length_drop, List.length_take]; rfl)) ?_
    with_reducible refine (offertoryref09_Same.calls k _ _ l0_0 a0_1 a0_2 a0_3 a0_4 a0_5 a0_6 _ _ l1_0 a1_1 a1_2 a1_3 a1_4 a1_5 a1_6 t558 _ ?side1 ?side2 ?side3 ?side4 A6.out).mono ?_
    (case side1 => repeat (first | exact (Kd.C_below HR0_0.out HB.out) | (with_reducible refine Kd.C_alloc ?_ _) | (with_reducible refine Kd.C_drewN ?_ _) | (with_reducible refine Kd.C_drew ?_)))
    (case side2 => exact HC0_0.out)
    (case side3 => repeat (first | exact (Kd.C_below HR1_0.out HB.out) | (with_reducible refine Kd.C_alloc ?_ _) | (with_reducible refine Kd.C_drewN ?_ _) | (with_reducible refine Kd.C_drew ?_)))
    (case side4 => exact HC1_0.out)
    rintro e w12 ⟨rfl, hb⟩
    refine ⟨_, rfl, ?_⟩
    have n0_ := Aside0.mk (blk_below (g := gb554) (o := .cells #[.slice A0_0 l0_0.length c0_0, .int .i64 a0_1, .int .u64 a0_2, .int .u64 a0_3, .int .u64 a0_4, .int .u64 a0_5, .bool a0_6] 29 (0, 0)) (by (with_reducible repeat (first | refine blk_drewN ?_ _ | refine blk_drew ?_ | refine blk_alloc ?_ _)); exact BK554.out) hb)
    have n1_ := Aside0.mk (blk_below (g := gb555) (o := .cells #[.slice A1_0 l1_0.length c1_0, .int .i64 a1_1, .int .u64 a1_2, .int .u64 a1_3, .int .u64 a1_4, .int .u64 a1_5, .bool a1_6] 29 (0, 0)) (by (with_reducible repeat (first | refine blk_drewN ?_ _ | refine blk_drew ?_ | refine blk_alloc ?_ _)); exact BK555.out) hb)
    have n2_ := Aside0.mk (below_step (by repeat (first | (with_reducible first | exact HB.out | apply below_alloc | apply pw_below_drewN | apply below_drew1 | refine below_set ?_ GE554.out | refine below_set ?_ GE555.out) | exact HB.out)) hb)
    clear BK554
    clear BK555
    clear HB
    have BK554 := n0_
    have BK555 := n1_
    have HB := n2_
    clear n0_ n1_ n2_
    (try clear hb)
    (try clear hb2)
    (try clear hk)
    (try clear hi)
    refine hK.out _ _ ⟨(blk_cell BK554.out 0).trans rfl, (blk_cell BK554.out 1).trans rfl, (blk_cell BK554.out 2).trans rfl, (blk_cell BK554.out 3).trans rfl, (blk_cell BK554.out 4).trans rfl, (blk_cell BK554.out 5).trans rfl, (blk_cell BK554.out 6).trans rfl, (blk_cell BK555.out 0).trans rfl, (blk_cell BK555.out 1).trans rfl, (blk_cell BK555.out 2).trans rfl, (blk_cell BK555.out 3).trans rfl, (blk_cell BK555.out 4).trans rfl, (blk_cell BK555.out 5).trans rfl, (blk_cell BK555.out 6).trans rfl⟩ (fun hHeld => ?_)
    clear hK K
    refine norm_ (a' := ?_) ?_ ?_
    rotate_left
    · show Act.put _ (some 12) _ = _
      simp only [Act.put, List.setIfInBounds_toArray, List.set_cons_zero, List.set_cons_succ, i64_w, i32_w]
      rfl
    refine pure_ (i := 8) (N := some 13) (v := ?_) (a' := ?_) #[true, true, true, true, true, true, true, true, true, false, false] rfl rfl (any_of HT_.out (by kernel_rfl)) (fun _ _ _ h => h) (Or.inl ⟨by rfl, ?_⟩) ?_ ?_
    rotate_left
    · intro w'
      (try simp only [add_plain] at s0 s1 s2 s3 s4 s5 s6 s7 s8 s9 s10 s11 s12 s13)
      go_simp
      with_reducible rfl
    rotate_left
    · simp only [Act.put, List.setIfInBounds_toArray, List.set_cons_zero, List.set_cons_succ, i64_w, i32_w]
      rfl
    refine pure_ (i := 9) (N := some 14) (v := ?_) (a' := ?_) #[true, true, true, true, true, true, true, true, true, true, false] rfl rfl (any_of HT_.out (by kernel_rfl)) (fun _ _ _ h => h) (Or.inl ⟨by rfl, ?_⟩) ?_ ?_
    rotate_left
    · intro w'
      (try simp only [add_plain] at s0 s1 s2 s3 s4 s5 s6 s7 s8 s9 s10 s11 s12 s13)
      go_simp
      with_reducible rfl
    rotate_left
    · simp only [Act.put, List.setIfInBounds_toArray, List.set_cons_zero, List.set_cons_succ, i64_w, i32_w]
      rfl
    refine pure_ (i := 10) (N := some 4) (v := ?_) (a' := ?_) #[true, true, true, true, true, true, true, true, true, true, true] rfl rfl (any_of HT_.out (by kernel_rfl)) (fun _ _ _ h => h) (Or.inl ⟨by rfl, ?_⟩) ?_ ?_
    rotate_left
    · intro w'
      (try simp only [add_plain] at s0 s1 s2 s3 s4 s5 s6 s7 s8 s9 s10 s11 s12 s13)
      go_simp
      with_reducible rfl
    rotate_left
    · simp only [Act.put, List.setIfInBounds_toArray, List.set_cons_zero, List.set_cons_succ, i64_w, i32_w]
      rfl
    refine done_ (done_of HT_.out (by kernel_rfl)) ?_
    try go_wp2
    go_ret
    exact ⟨by first | rfl | (simp [errW_none, errW_some] <;> rfl) | (simp [*, errW_none, errW_some] <;> rfl), by repeat (first | (with_reducible first | exact HB.out | apply below_alloc | apply pw_below_drewN | apply below_drew1 | refine below_set ?_ GE554.out | refine below_set ?_ GE555.out) | exact HB.out)⟩
  · replace c4 := Bool.eq_false_iff.mpr c4
    subst c4
    have H1 : (none) = some r := by rw [if_neg (show ¬ (false = true) by decide)] at H; exact H
    clear H
    have H := H1
    clear H1
    exact absurd H (by simp)

-- NOT PRINTED: function 7 (offertorylaw13_StatsTimes)

end Go.Proofs.Ytdpekjffjobabaa.PAll
