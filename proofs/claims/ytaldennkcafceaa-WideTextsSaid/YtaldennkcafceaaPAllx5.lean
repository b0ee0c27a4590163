/- The Go functions that the laws reach, as Lean functions, and that each call comes to what its function says. Written by a program of this session (a turned copy of the kit's print). No condition beyond those that each theorem states. -/
import Derived.Test.YtaldennkcafceaaPAllx0
import Derived.Test.YtaldennkcafceaaPAllx1
import Derived.Test.YtaldennkcafceaaPAllx2
import Derived.Test.YtaldennkcafceaaPAllx4
namespace Go.Proofs.Ytaldennkcafceaa.PAll
open Go.RowKit Go.Proofs.YtaldennkcafceaaW.PrintWords Go.Proofs.YtaldennkcafceaaW.PrintLast Go.Proofs.YtaldennkcafceaaW.PrintMore
attribute [local go_sem] max2_int min2_int max_two min_two max_three min_three max_four min_four   -- for this text's walks alone
set_option linter.unusedVariables false
set_option linter.unusedSimpArgs false

attribute [local go_sem high] eqA25
theorem wide_Compare.keepB {W0 W w1 : World} {g : Nat} {o : Obj} (h : Aside0 (W0.heap[g]? = some o)) (hb : Below W.heap.size W w1) (hs : W0.heap[g]? = some o → W.heap[g]? = some o := by intro h_; (with_reducible repeat (first | refine blk_drewN ?_ _ | refine blk_drew ?_ | refine blk_alloc ?_ _)); exact h_) : Aside0 (w1.heap[g]? = some o) := ⟨(hb.block g (blk_lt (hs h.out))).trans (hs h.out)⟩
theorem wide_Compare.neL {W0 W : World} {g gb : Nat} {o : Obj} (h : Aside0 (W0.heap[g]? = some o)) (hg : gb = W.heap.size) (hs : W0.heap[g]? = some o → W.heap[g]? = some o := by intro h_; (with_reducible repeat (first | refine blk_drewN ?_ _ | refine blk_drew ?_ | refine blk_alloc ?_ _)); exact h_) : Aside0 (g ≠ gb) := ⟨by rw [hg]; exact Nat.ne_of_lt (blk_lt (hs h.out))⟩
theorem wide_Compare.neG {W0 W : World} {g gb : Nat} {o : Obj} (h : Aside0 (W0.heap[g]? = some o)) (hg : gb = W.heap.size) (hs : W0.heap[g]? = some o → W.heap[g]? = some o := by intro h_; (with_reducible repeat (first | refine blk_drewN ?_ _ | refine blk_drew ?_ | refine blk_alloc ?_ _)); exact h_) : Aside0 (gb ≠ g) := ⟨by rw [hg]; exact Nat.ne_of_gt (blk_lt (hs h.out))⟩
/-! ### wide_Compare: function 22 -/
def wide_Compare.f (k : Nat) (a0_0 : Int) (a0_1 : Int) (a1_0 : Int) (a1_1 : Int) : Option (Int) := (cmp_Compare_uint64.f a0_0 a1_0).bind fun t139 => ((cmp_Compare_uint64.f a0_1 a1_1).bind fun t140 => ((cmp_Or_int.f k (([t139, t140] : List Int))).bind fun t144 => (some t144)))
theorem wide_Compare.mono : ∀ a0 a1 a2 a3 k, LeO (wide_Compare.f k a0 a1 a2 a3) (wide_Compare.f (k + 1) a0 a1 a2 a3) := by
  intro a0 a1 a2 a3 k
  unfold wide_Compare.f
  repeat' first
      | (with_reducible exact cmp_Or_int.mono _ _)
      | (with_reducible exact LeO.refl _)
      | (with_reducible exact LeO.none _)
      | (with_reducible refine LeO.ite ?_ ?_)
      | (with_reducible refine LeO.bind ?_ (fun _ => ?_))
      | exact cmp_Or_int.mono _ _
      | exact LeO.none _
      | refine LeO.ite ?_ ?_
      | refine LeO.bind ?_ (fun _ => ?_)
def wide_Compare.T1 : Bool × List (List Nat × List Nat) := (true, [([], []), ([0], [0]), ([], []), ([2], [2]), ([1, 3], [1, 3]), ([], []), ([5], [5]), ([], []), ([7], [7]), ([6, 8, 4], [6, 8]), ([4, 9], [4, 9]), ([10, 9], [10]), ([11, 11, 0, 1, 2, 3, 4, 5, 6, 7, 8, 9, 10, 11], [11])])
def wide_Compare.B1 : List Nat := [0, 1, 0, 4, 15, 0, 32, 0, 128, 511, 1023, 2047, 4095]
theorem wide_Compare.tab1 : rtab .any (opsOf Try.f22 1) = wide_Compare.T1 := by kernel_rfl
theorem wide_Compare.bits1 : waitsOk wide_Compare.T1.2 wide_Compare.B1 = true := by kernel_rfl
set_option maxHeartbeats 8000000 in
set_option maxRecDepth 100000 in
theorem wide_Compare.calls (k : Nat) (a0_0 : Int) (a0_1 : Int) (a1_0 : Int) (a1_1 : Int) (r : Int) (w : World) (h : wide_Compare.f k a0_0 a0_1 a1_0 a1_1 = some r) :
    Calls Try.prog 22 #[.agg #[.int .u64 a0_0, .int .u64 a0_1], .agg #[.int .u64 a1_0, .int .u64 a1_1]] w fun e w' => e = .returned (.int .i64 r) ∧ Below w.heap.size w w' := by
  have hu25 := Try.underlying25
  have HB := Aside0.mk (Below.refl w.heap.size w)
  have H : ((cmp_Compare_uint64.f a0_0 a1_0).bind fun t139 => ((cmp_Compare_uint64.f a0_1 a1_1).bind fun t140 => ((cmp_Or_int.f k (([t139, t140] : List Int))).bind fun t144 => (some t144)))) = some r := h
  clear h
  replace H := Option.bind_eq_some_iff.mp H
  obtain ⟨t139, A30, H⟩ := H
  replace H : ((cmp_Compare_uint64.f a0_1 a1_1).bind fun t140 => ((cmp_Or_int.f k (([t139, t140] : List Int))).bind fun t144 => (some t144))) = some r := H
  have A3 := Aside0.mk A30
  clear A30
  replace H := Option.bind_eq_some_iff.mp H
  obtain ⟨t140, A40, H⟩ := H
  replace H : ((cmp_Or_int.f k (([t139, t140] : List Int))).bind fun t144 => (some t144)) = some r := H
  have A4 := Aside0.mk A40
  clear A40
  obtain ⟨y141, hy141⟩ : ∃ y_ : List Int, y_ = (([t139, t140] : List Int)) := ⟨_, rfl⟩
  replace H : ((cmp_Or_int.f k y141).bind fun t144 => (some t144)) = some r := by first | (rw [hy141]; with_reducible exact H) | (have H2_ := (Option.bind_some _ _).symm.trans H; rw [hy141]; with_reducible exact H2_) | (have H2_ := (Option.bind_some _ _).symm.trans H; with_reducible exact H2_) | with_reducible exact H | (rw [hy141]; exact H) | exact H
  have Ny141 := Aside0.mk hy141
  clear hy141
  replace H := Option.bind_eq_some_iff.mp H
  obtain ⟨t144, A50, H⟩ := H
  replace H : (some t144) = some r := H
  have A5 := Aside0.mk A50
  clear A50
  obtain rfl := Option.some.inj H
  go_enter Try.func22, Try.ntmps22
  try go_wp2_with (first | ((with_reducible refine gate_dst (N := 2) rfl ?_); refine box_event ?hg (N := 2) ?hd (cs := #[.int .u64 a0_0, .int .u64 a0_1]) (t := 25) ?hr ?_; (case hd => rfl); (case hg => rfl); (case hr => first | (go_simp; done) | (go_simp; rfl)); intro gb137 hg w6 hbox hb; have n0_ := Aside0.mk (below_step (by repeat (first | (with_reducible first | exact HB.out | apply below_alloc | apply pw_below_drewN | apply below_drew1) | exact HB.out)) hb); have n1_ := Aside0.mk (hbox); have n2_ := Aside0.mk ((by rw [hg]; exact (below_size (by repeat (first | (with_reducible first | exact HB.out | apply below_alloc | apply pw_below_drewN | apply below_drew1) | exact HB.out))) : w.heap.size ≤ gb137)); have n3_ := Aside0.mk ((by rw [hg]; exact (below_size (by repeat (first | (with_reducible first | exact HB.out | apply below_alloc | apply pw_below_drewN | apply below_drew1) | exact HB.out))) : w.heap.size ≤ gb137)); clear HB; have HB := n0_; have BK137 := n1_; have GW137 := n2_; have GE137 := n3_; clear n0_ n1_ n2_ n3_; clear hb hbox hg) | ((with_reducible refine gate_dst (N := 3) rfl ?_); refine box_event ?hg (N := 3) ?hd (cs := #[.int .u64 a1_0, .int .u64 a1_1]) (t := 25) ?hr ?_; (case hd => rfl); (case hg => rfl); (case hr => first | (go_simp; done) | (go_simp; rfl)); intro gb138 hg w7 hbox hb; have n0_ := wide_Compare.keepB BK137 hb; have n1_ := Aside0.mk (below_step (by repeat (first | (with_reducible first | exact HB.out | apply below_alloc | apply pw_below_drewN | apply below_drew1 | refine below_set ?_ GE137.out) | exact HB.out)) hb); have n2_ := Aside0.mk (hbox); have n3_ := Aside0.mk ((by rw [hg]; exact (below_size (by repeat (first | (with_reducible first | exact HB.out | apply below_alloc | apply pw_below_drewN | apply below_drew1 | refine below_set ?_ GE137.out) | exact HB.out))) : w.heap.size ≤ gb138)); have n4_ := Aside0.mk ((by rw [hg]; exact (below_size (by repeat (first | (with_reducible first | exact HB.out | apply below_alloc | apply pw_below_drewN | apply below_drew1 | refine below_set ?_ GE137.out) | exact HB.out))) : w.heap.size ≤ gb138)); have n5_ := wide_Compare.neL BK137 hg; have n6_ := wide_Compare.neG BK137 hg; clear BK137; clear HB; have BK137 := n0_; have HB := n1_; have BK138 := n2_; have GW138 := n3_; have GE138 := n4_; have NB137_138 := n5_; have NB138_137 := n6_; clear n0_ n1_ n2_ n3_ n4_ n5_ n6_; clear hb hbox hg))
  have n0_ := Aside0.mk (blk_drew BK137.out)
  have n1_ := Aside0.mk (blk_drew BK138.out)
  have n2_ := Aside0.mk (below_drew1 HB.out)
  clear BK137
  clear BK138
  clear HB
  have BK137 := n0_
  have BK138 := n1_
  have HB := n2_
  clear n0_ n1_ n2_
  refine start_ (n := 13) (S := fun w' => w'.cell? ⟨gb137, 0, none⟩ = some (.int .u64 a0_0) ∧ w'.cell? ⟨gb137, 1, none⟩ = some (.int .u64 a0_1) ∧ w'.cell? ⟨gb138, 0, none⟩ = some (.int .u64 a1_0) ∧ w'.cell? ⟨gb138, 1, none⟩ = some (.int .u64 a1_1)) (ds := []) #[false, false, false, false, false, false, false, false, false, false, false, false, false] (by kernel_rfl) rfl rfl ⟨(blk_cell BK137.out 0).trans rfl, (blk_cell BK137.out 1).trans rfl, (blk_cell BK138.out 0).trans rfl, (blk_cell BK138.out 1).trans rfl⟩ (fun hHeld => ?_); refine with_tabW wide_Compare.tab1 wide_Compare.bits1 (fun HT_ HW_ => ?_)
  generalize w7.drew = w8 at BK137 BK138 HB hHeld ⊢
  refine pure_ (i := 0) (N := some 5) (v := ?_) (a' := ?_) #[true, false, false, false, false, false, false, false, false, false, false, false, false] rfl rfl (any_of HT_.out (by kernel_rfl)) (fun _ _ _ h => h) (Or.inl ⟨by rfl, ?_⟩) ?_ ?_
  rotate_left
  · intro w'
    (try simp only [add_plain] at s0 s1 s2 s3)
    go_simp
    with_reducible rfl
  rotate_left
  · simp only [Act.put, List.setIfInBounds_toArray, List.set_cons_zero, List.set_cons_succ, i64_w, i32_w]
    rfl
  refine pure_ (i := 2) (N := some 7) (v := ?_) (a' := ?_) #[true, false, true, false, false, false, false, false, false, false, false, false, false] rfl rfl (any_of HT_.out (by kernel_rfl)) (fun _ _ _ h => h) (Or.inl ⟨by rfl, ?_⟩) ?_ ?_
  rotate_left
  · intro w'
    (try simp only [add_plain] at s0 s1 s2 s3)
    go_simp
    with_reducible rfl
  rotate_left
  · simp only [Act.put, List.setIfInBounds_toArray, List.set_cons_zero, List.set_cons_succ, i64_w, i32_w]
    rfl
  refine pure_ (i := 5) (N := some 10) (v := ?_) (a' := ?_) #[true, false, true, false, false, true, false, false, false, false, false, false, false] rfl rfl (any_of HT_.out (by kernel_rfl)) (fun _ _ _ h => h) (Or.inl ⟨by rfl, ?_⟩) ?_ ?_
  rotate_left
  · intro w'
    (try simp only [add_plain] at s0 s1 s2 s3)
    go_simp
    with_reducible rfl
  rotate_left
  · simp only [Act.put, List.setIfInBounds_toArray, List.set_cons_zero, List.set_cons_succ, i64_w, i32_w]
    rfl
  refine pure_ (i := 7) (N := some 12) (v := ?_) (a' := ?_) #[true, false, true, false, false, true, false, true, false, false, false, false, false] rfl rfl (any_of HT_.out (by kernel_rfl)) (fun _ _ _ h => h) (Or.inl ⟨by rfl, ?_⟩) ?_ ?_
  rotate_left
  · intro w'
    (try simp only [add_plain] at s0 s1 s2 s3)
    go_simp
    with_reducible rfl
  rotate_left
  · simp only [Act.put, List.setIfInBounds_toArray, List.set_cons_zero, List.set_cons_succ, i64_w, i32_w]
    rfl
  refine take_ (i := 1) (N := some 6) (v := ?_) (a' := ?_) #[true, true, true, false, false, true, false, true, false, false, false, false, false] rfl rfl (take_ofW HT_.out HW_.out (by kernel_rfl)) (fun _ _ _ h => h) (Or.inl ⟨by rfl, ?_⟩) hHeld ?_ ?_
  rotate_left
  · rintro w' ⟨s0, s1, s2, s3⟩
    (try simp only [add_plain] at s0 s1 s2 s3)
    go_simp
    with_reducible rfl
  rotate_left
  · simp only [Act.put, List.setIfInBounds_toArray, List.set_cons_zero, List.set_cons_succ, i64_w, i32_w]
    rfl
  refine take_ (i := 3) (N := some 8) (v := ?_) (a' := ?_) #[true, true, true, true, false, true, false, true, false, false, false, false, false] rfl rfl (take_ofW HT_.out HW_.out (by kernel_rfl)) (fun _ _ _ h => h) (Or.inl ⟨by rfl, ?_⟩) hHeld ?_ ?_
  rotate_left
  · rintro w' ⟨s0, s1, s2, s3⟩
    (try simp only [add_plain] at s0 s1 s2 s3)
    go_simp
    with_reducible rfl
  rotate_left
  · simp only [Act.put, List.setIfInBounds_toArray, List.set_cons_zero, List.set_cons_succ, i64_w, i32_w]
    rfl
  refine take_ (i := 6) (N := some 11) (v := ?_) (a' := ?_) #[true, true, true, true, false, true, true, true, false, false, false, false, false] rfl rfl (take_ofW HT_.out HW_.out (by kernel_rfl)) (fun _ _ _ h => h) (Or.inl ⟨by rfl, ?_⟩) hHeld ?_ ?_
  rotate_left
  · rintro w' ⟨s0, s1, s2, s3⟩
    (try simp only [add_plain] at s0 s1 s2 s3)
    go_simp
    with_reducible rfl
  rotate_left
  · simp only [Act.put, List.setIfInBounds_toArray, List.set_cons_zero, List.set_cons_succ, i64_w, i32_w]
    rfl
  refine take_ (i := 8) (N := some 13) (v := ?_) (a' := ?_) #[true, true, true, true, false, true, true, true, true, false, false, false, false] rfl rfl (take_ofW HT_.out HW_.out (by kernel_rfl)) (fun _ _ _ h => h) (Or.inl ⟨by rfl, ?_⟩) hHeld ?_ ?_
  rotate_left
  · rintro w' ⟨s0, s1, s2, s3⟩
    (try simp only [add_plain] at s0 s1 s2 s3)
    go_simp
    with_reducible rfl
  rotate_left
  · simp only [Act.put, List.setIfInBounds_toArray, List.set_cons_zero, List.set_cons_succ, i64_w, i32_w]
    rfl
  refine one_ (i := 4) (N := some 9) #[true, true, true, true, true, true, true, true, true, false, false, false, false] rfl rfl (one_of HT_.out (by kernel_rfl)) (by decide) (fun K hK => ?_)
  refine goes_ Try.func29 (by kernel_rfl) rfl #[.int .u64 a0_0, .int .u64 a1_0] (by rfl) rfl rfl (by (try simp only [List.map_toArray, List.map_cons, List.map_nil]); first | done | rfl | (simp only [List.length_drop, List.length_take]; rfl)) ?_
  with_reducible refine (cmp_Compare_uint64.calls a0_0 a1_0 t139 _ A3.out).mono ?_
  rintro e w' ⟨rfl, ⟨nd, rfl⟩⟩
  refine ⟨_, rfl, ?_⟩
  refine hK.out _ _ ⟨(blk_cell BK137.out 0).trans rfl, (blk_cell BK137.out 1).trans rfl, (blk_cell BK138.out 0).trans rfl, (blk_cell BK138.out 1).trans rfl⟩ (fun hHeld => ?_)
  clear hK K
  refine norm_ (a' := ?_) ?_ ?_
  rotate_left
  · show Act.put _ (some 9) _ = _
    simp only [Act.put, List.setIfInBounds_toArray, List.set_cons_zero, List.set_cons_succ, i64_w, i32_w]
    rfl
  refine one_ (i := 9) (N := some 14) #[true, true, true, true, true, true, true, true, true, true, false, false, false] rfl rfl (one_of HT_.out (by kernel_rfl)) (by decide) (fun K hK => ?_)
  refine goes_ Try.func29 (by kernel_rfl) rfl #[.int .u64 a0_1, .int .u64 a1_1] (by rfl) rfl rfl (by (try simp only [List.map_toArray, List.map_cons, List.map_nil]); first | done | rfl | (simp only [List.length_drop, List.length_take]; rfl)) ?_
  with_reducible refine (cmp_Compare_uint64.calls a0_1 a1_1 t140 _ A4.out).mono ?_
  rintro e w' ⟨rfl, ⟨nd, rfl⟩⟩
  refine ⟨_, rfl, ?_⟩
  refine hK.out _ _ ⟨(blk_cell BK137.out 0).trans rfl, (blk_cell BK137.out 1).trans rfl, (blk_cell BK138.out 0).trans rfl, (blk_cell BK138.out 1).trans rfl⟩ (fun hHeld => ?_)
  clear hK K
  refine norm_ (a' := ?_) ?_ ?_
  rotate_left
  · show Act.put _ (some 14) _ = _
    simp only [Act.put, List.setIfInBounds_toArray, List.set_cons_zero, List.set_cons_succ, i64_w, i32_w]
    rfl
  refine one_ (i := 10) (N := some 15) #[true, true, true, true, true, true, true, true, true, true, true, false, false] rfl rfl (one_of HT_.out (by kernel_rfl)) (by decide) (fun K hK => ?_)
  refine Kd.R_lit_step (Kd.int .i64) _ 3 ?hg (N := 15) ?hd (xs := ([t139, t140] : List Int)) (inner := [.int .i64 t139, .int .i64 t140]) (ok := fun _ => True) (okp := fun _ => True) ?hr ?hp (fun _ hk => hk) trivial (Below.refl _ _) (Nat.le_refl _) (by simp) ?_; (case hd => rfl); (case hg => rfl); (case hr => first | (go_simp; done) | (go_simp; rfl)); (case hp => exact (Reps.one (show Kd.M (Kd.int .i64) _ _ _ t139 [.int .i64 t139] from rfl) (Reps.one (show Kd.M (Kd.int .i64) _ _ _ t140 [.int .i64 t140] from rfl) (Reps.none _ _))))
  intro v142 w9 ho10 hb hg_ hnew_
  clear hg_ hnew_
  (first | rw [← Ny141.out] at ho10 | (simp only [Int.reduceToNat] at ho10; rw [← Ny141.out] at ho10))
  have n0_ := Aside0.mk (Kd.R_lower ho10 (below_size (by repeat (first | (with_reducible first | exact HB.out | apply below_alloc | apply pw_below_drewN | apply below_drew1 | refine below_set ?_ GE137.out | refine below_set ?_ GE138.out) | exact HB.out))))
  have n1_ := wide_Compare.keepB BK137 hb
  have n2_ := wide_Compare.keepB BK138 hb
  have n3_ := Aside0.mk (below_step (by repeat (first | (with_reducible first | exact HB.out | apply below_alloc | apply pw_below_drewN | apply below_drew1 | refine below_set ?_ GE137.out | refine below_set ?_ GE138.out) | exact HB.out)) hb)
  clear BK137
  clear BK138
  clear HB
  have HO143 := n0_
  have BK137 := n1_
  have BK138 := n2_
  have HB := n3_
  clear n0_ n1_ n2_ n3_
  clear hb ho10
  obtain ⟨Ao11, co11, eo11⟩ := Kd.R_slice HO143.out
  (first | subst eo11 | (injection eo11 with f1_ f2_ f3_; have f4_ := f1_.symm; have f5_ := f3_.symm; clear f1_ f2_ f3_; subst f4_; subst f5_))
  refine hK.out _ _ ⟨(blk_cell BK137.out 0).trans rfl, (blk_cell BK137.out 1).trans rfl, (blk_cell BK138.out 0).trans rfl, (blk_cell BK138.out 1).trans rfl⟩ (fun hHeld => ?_)
  clear hK K
  refine norm_ (a' := ?_) ?_ ?_
  rotate_left
  · show Act.put _ (some 15) _ = _
    simp only [Act.put, List.setIfInBounds_toArray, List.set_cons_zero, List.set_cons_succ, i64_w, i32_w]
    rfl
  refine one_ (i := 11) (N := some 16) #[true, true, true, true, true, true, true, true, true, true, true, true, false] rfl rfl (one_of HT_.out (by kernel_rfl)) (by decide) (fun K hK => ?_)
  refine goes_ Try.func28 (by kernel_rfl) rfl #[.slice Ao11 y141.length co11] (by rfl) rfl rfl (by (try simp only [List.map_toArray, List.map_cons, List.map_nil]); first | done | rfl | (simp only [List.length_drop, List.length_take]; rfl)) ?_
  with_reducible refine (cmp_Or_int.calls k _ _ y141 t144 _ ?side1 ?side2 A5.out).mono ?_
  (case side1 => repeat (first | exact (Kd.R_reads' HO143.out).2.2 | (with_reducible refine Kd.C_alloc ?_ _) | (with_reducible refine Kd.C_drewN ?_ _) | (with_reducible refine Kd.C_drew ?_)))
  (case side2 => exact (Kd.R_reads' HO143.out).2.1)
  rintro e w' ⟨rfl, ⟨nd, rfl⟩⟩
  refine ⟨_, rfl, ?_⟩
  refine hK.out _ _ ⟨(blk_cell BK137.out 0).trans rfl, (blk_cell BK137.out 1).trans rfl, (blk_cell BK138.out 0).trans rfl, (blk_cell BK138.out 1).trans rfl⟩ (fun hHeld => ?_)
  clear hK K
  refine norm_ (a' := ?_) ?_ ?_
  rotate_left
  · show Act.put _ (some 16) _ = _
    simp only [Act.put, List.setIfInBounds_toArray, List.set_cons_zero, List.set_cons_succ, i64_w, i32_w]
    rfl
  refine pure_ (i := 12) (N := some 4) (v := ?_) (a' := ?_) #[true, true, true, true, true, true, true, true, true, true, true, true, true] rfl rfl (any_of HT_.out (by kernel_rfl)) (fun _ _ _ h => h) (Or.inl ⟨by rfl, ?_⟩) ?_ ?_
  rotate_left
  · intro w'
    (try simp only [add_plain] at s0 s1 s2 s3)
    go_simp
    with_reducible rfl
  rotate_left
  · simp only [Act.put, List.setIfInBounds_toArray, List.set_cons_zero, List.set_cons_succ, i64_w, i32_w]
    rfl
  refine done_ (done_of HT_.out (by kernel_rfl)) ?_
  try go_wp2
  go_ret
  exact ⟨by first | rfl | (simp [errW_none, errW_some] <;> rfl) | (simp [*, errW_none, errW_some] <;> rfl), by repeat (first | (with_reducible first | exact HB.out | apply below_alloc | apply pw_below_drewN | apply below_drew1 | refine below_set ?_ GE137.out | refine below_set ?_ GE138.out) | exact HB.out)⟩

/-! ### offertorylaw09_awake: function 8 -/
def offertorylaw09_awake.f (k : Nat)  : Option (Bool) := (wide_Mul.f 9223372036854775808 6).bind fun bt145 => (if (bt145.1 == 3 && (bt145.2 == 0)) = true then ((wide_Text.f k bt145.1 bt145.2).bind fun t148 => (if t148.toList = ([53, 53, 51, 52, 48, 50, 51, 50, 50, 50, 49, 49, 50, 56, 54, 53, 52, 56, 52, 56] : List UInt8) then ((wide_Compare.f k bt145.1 bt145.2 0 9).bind fun t149 => (if t149 = 1 then ((wide_Neg.f 0 1).bind fun bt150 => (if (bt150.1 == 18446744073709551615 && (bt150.2 == 18446744073709551615)) = true then ((wide_Shift.f 0 1 64).bind fun bt152 => (if (bt152.1 == 1 && (bt152.2 == 0)) = true then ((wide_Sub.f bt145.1 bt145.2 bt145.1 bt145.2).bind fun bt154 => (some (bt154.1 == 0 && (bt154.2 == 0)))) else (none))) else (none))) else (none))) else (none))) else (none))
theorem offertorylaw09_awake.mono : ∀ k, LeO (offertorylaw09_awake.f k ) (offertorylaw09_awake.f (k + 1) ) := by
  intro  k
  unfold offertorylaw09_awake.f
  repeat' first
      | (with_reducible exact wide_Compare.mono _ _ _ _ _)
      | (with_reducible exact wide_Text.mono _ _ _)
      | (with_reducible exact LeO.refl _)
      | (with_reducible exact LeO.none _)
      | (with_reducible refine LeO.ite ?_ ?_)
      | (with_reducible refine LeO.bind ?_ (fun _ => ?_))
      | exact wide_Compare.mono _ _ _ _ _
      | exact wide_Text.mono _ _ _
      | exact LeO.none _
      | refine LeO.ite ?_ ?_
      | refine LeO.bind ?_ (fun _ => ?_)
set_option maxHeartbeats 8000000 in
set_option maxRecDepth 100000 in
theorem offertorylaw09_awake.calls (k : Nat)  (r : Bool) (w : World) (h : offertorylaw09_awake.f k  = some r) :
    Calls Try.prog 8 #[] w fun e w' => e = .returned (.bool r) ∧ Below w.heap.size w w' := by
  have hu25 := Try.underlying25
  have HB := Aside0.mk (Below.refl w.heap.size w)
  have H : ((wide_Mul.f 9223372036854775808 6).bind fun bt145 => (if (bt145.1 == 3 && (bt145.2 == 0)) = true then ((wide_Text.f k bt145.1 bt145.2).bind fun t148 => (if t148.toList = ([53, 53, 51, 52, 48, 50, 51, 50, 50, 50, 49, 49, 50, 56, 54, 53, 52, 56, 52, 56] : List UInt8) then ((wide_Compare.f k bt145.1 bt145.2 0 9).bind fun t149 => (if t149 = 1 then ((wide_Neg.f 0 1).bind fun bt150 => (if (bt150.1 == 18446744073709551615 && (bt150.2 == 18446744073709551615)) = true then ((wide_Shift.f 0 1 64).bind fun bt152 => (if (bt152.1 == 1 && (bt152.2 == 0)) = true then ((wide_Sub.f bt145.1 bt145.2 bt145.1 bt145.2).bind fun bt154 => (some (bt154.1 == 0 && (bt154.2 == 0)))) else (none))) else (none))) else (none))) else (none))) else (none))) = some r := h
  clear h
  replace H := Option.bind_eq_some_iff.mp H
  obtain ⟨⟨t145, t146⟩, A10, H⟩ := H
  replace H : (if (t145 == 3 && (t146 == 0)) = true then ((wide_Text.f k t145 t146).bind fun t148 => (if t148.toList = ([53, 53, 51, 52, 48, 50, 51, 50, 50, 50, 49, 49, 50, 56, 54, 53, 52, 56, 52, 56] : List UInt8) then ((wide_Compare.f k t145 t146 0 9).bind fun t149 => (if t149 = 1 then ((wide_Neg.f 0 1).bind fun bt150 => (if (bt150.1 == 18446744073709551615 && (bt150.2 == 18446744073709551615)) = true then ((wide_Shift.f 0 1 64).bind fun bt152 => (if (bt152.1 == 1 && (bt152.2 == 0)) = true then ((wide_Sub.f t145 t146 t145 t146).bind fun bt154 => (some (bt154.1 == 0 && (bt154.2 == 0)))) else (none))) else (none))) else (none))) else (none))) else (none)) = some r := H
  have A1 := Aside0.mk A10
  clear A10
  by_cases c2 : (t145 == 3 && (t146 == 0)) = true
  · rw [if_pos c2] at H
    have c2b0 : (t145 == 3 && (t146 == 0)) = true := c2
    (try (have c2b1 : decide (t145 = 3 && (t146 == 0)) = true := by first | decide | simpa using c2))
    (try (have c2b2 : (t145 == 3 && (t146 == 0)) = true := by first | decide | simpa using c2))
    clear c2
    replace H := Option.bind_eq_some_iff.mp H
    obtain ⟨t148, A30, H⟩ := H
    replace H : (if t148.toList = ([53, 53, 51, 52, 48, 50, 51, 50, 50, 50, 49, 49, 50, 56, 54, 53, 52, 56, 52, 56] : List UInt8) then ((wide_Compare.f k t145 t146 0 9).bind fun t149 => (if t149 = 1 then ((wide_Neg.f 0 1).bind fun bt150 => (if (bt150.1 == 18446744073709551615 && (bt150.2 == 18446744073709551615)) = true then ((wide_Shift.f 0 1 64).bind fun bt152 => (if (bt152.1 == 1 && (bt152.2 == 0)) = true then ((wide_Sub.f t145 t146 t145 t146).bind fun bt154 => (some (bt154.1 == 0 && (bt154.2 == 0)))) else (none))) else (none))) else (none))) else (none)) = some r := H
    have A3 := Aside0.mk A30
    clear A30
    by_cases c4 : t148.toList = ([53, 53, 51, 52, 48, 50, 51, 50, 50, 50, 49, 49, 50, 56, 54, 53, 52, 56, 52, 56] : List UInt8)
    · rw [if_pos c4] at H
      have c4b0 : (t148.toList == ([53, 53, 51, 52, 48, 50, 51, 50, 50, 50, 49, 49, 50, 56, 54, 53, 52, 56, 52, 56] : List UInt8)) = true := beq_iff_eq.mpr c4
      have c4b1 : (t148.toList != ([53, 53, 51, 52, 48, 50, 51, 50, 50, 50, 49, 49, 50, 56, 54, 53, 52, 56, 52, 56] : List UInt8)) = false := bne_eq_false_iff_eq.mpr c4
      clear c4
      replace H := Option.bind_eq_some_iff.mp H
      obtain ⟨t149, A50, H⟩ := H
      replace H : (if t149 = 1 then ((wide_Neg.f 0 1).bind fun bt150 => (if (bt150.1 == 18446744073709551615 && (bt150.2 == 18446744073709551615)) = true then ((wide_Shift.f 0 1 64).bind fun bt152 => (if (bt152.1 == 1 && (bt152.2 == 0)) = true then ((wide_Sub.f t145 t146 t145 t146).bind fun bt154 => (some (bt154.1 == 0 && (bt154.2 == 0)))) else (none))) else (none))) else (none)) = some r := H
      have A5 := Aside0.mk A50
      clear A50
      by_cases c6 : t149 = 1
      · rw [if_pos c6] at H
        have c6b0 : (t149 == 1) = true := beq_iff_eq.mpr c6
        have c6b1 : (t149 != 1) = false := bne_eq_false_iff_eq.mpr c6
        clear c6
        replace H := Option.bind_eq_some_iff.mp H
        obtain ⟨⟨t150, t151⟩, A70, H⟩ := H
        replace H : (if (t150 == 18446744073709551615 && (t151 == 18446744073709551615)) = true then ((wide_Shift.f 0 1 64).bind fun bt152 => (if (bt152.1 == 1 && (bt152.2 == 0)) = true then ((wide_Sub.f t145 t146 t145 t146).bind fun bt154 => (some (bt154.1 == 0 && (bt154.2 == 0)))) else (none))) else (none)) = some r := H
        have A7 := Aside0.mk A70
        clear A70
        by_cases c8 : (t150 == 18446744073709551615 && (t151 == 18446744073709551615)) = true
        · rw [if_pos c8] at H
          have c8b0 : (t150 == 18446744073709551615 && (t151 == 18446744073709551615)) = true := c8
          (try (have c8b1 : decide (t150 = 18446744073709551615 && (t151 == 18446744073709551615)) = true := by first | decide | simpa using c8))
          (try (have c8b2 : (t150 == 18446744073709551615 && (t151 == 18446744073709551615)) = true := by first | decide | simpa using c8))
          clear c8
          replace H := Option.bind_eq_some_iff.mp H
          obtain ⟨⟨t152, t153⟩, A90, H⟩ := H
          replace H : (if (t152 == 1 && (t153 == 0)) = true then ((wide_Sub.f t145 t146 t145 t146).bind fun bt154 => (some (bt154.1 == 0 && (bt154.2 == 0)))) else (none)) = some r := H
          have A9 := Aside0.mk A90
          clear A90
          by_cases c10 : (t152 == 1 && (t153 == 0)) = true
          · rw [if_pos c10] at H
            have c10b0 : (t152 == 1 && (t153 == 0)) = true := c10
            (try (have c10b1 : decide (t152 = 1 && (t153 == 0)) = true := by first | decide | simpa using c10))
            (try (have c10b2 : (t152 == 1 && (t153 == 0)) = true := by first | decide | simpa using c10))
            clear c10
            replace H := Option.bind_eq_some_iff.mp H
            obtain ⟨⟨t154, t155⟩, A110, H⟩ := H
            replace H : (some (t154 == 0 && (t155 == 0))) = some r := H
            have A11 := Aside0.mk A110
            clear A110
            obtain rfl := Option.some.inj H
            go_enter Try.func8, Try.ntmps8
            go_wp2_with (first | ((with_reducible refine gate_callee (f := 9) rfl ?_); refine goesL_ (some 2) rfl rfl Try.func9 (by kernel_rfl) rfl #[.int .u64 9223372036854775808, .int .u64 6] rfl (by (try simp only [List.map_toArray, List.map_cons, List.map_nil]); first | done | rfl | (simp only [List.length_drop, List.length_take]; rfl)) ?_; (with_reducible refine (wide_Mul.calls 9223372036854775808 6 t145 t146 _ A1.out).mono ?_); rintro e w12 ⟨rfl, hb⟩; refine ⟨_, rfl, ?_⟩; have n0_ := Aside0.mk (below_step (by repeat (first | (with_reducible first | exact HB.out | apply below_alloc | apply pw_below_drewN | apply below_drew1) | exact HB.out)) hb); clear HB; have HB := n0_; clear n0_; (try clear hb); (try clear hb2); (try clear hk); (try clear hi)) | ((with_reducible refine gate_dst (N := 1) rfl ?_); refine box_event ?hg (N := 1) ?hd (cs := #[.int .u64 0, .int .u64 0]) (t := 25) ?hr ?_; (case hd => rfl); (case hg => rfl); (case hr => first | (go_simp; done) | (go_simp; rfl)); intro gb147 hg w13 hbox hb; have n0_ := Aside0.mk (below_step (by repeat (first | (with_reducible first | exact HB.out | apply below_alloc | apply pw_below_drewN | apply below_drew1) | exact HB.out)) hb); have n1_ := Aside0.mk (hbox); have n2_ := Aside0.mk ((by rw [hg]; exact (below_size (by repeat (first | (with_reducible first | exact HB.out | apply below_alloc | apply pw_below_drewN | apply below_drew1) | exact HB.out))) : w.heap.size ≤ gb147)); have n3_ := Aside0.mk ((by rw [hg]; exact (below_size (by repeat (first | (with_reducible first | exact HB.out | apply below_alloc | apply pw_below_drewN | apply below_drew1) | exact HB.out))) : w.heap.size ≤ gb147)); clear HB; have HB := n0_; have BK147 := n1_; have GW147 := n2_; have GE147 := n3_; clear n0_ n1_ n2_ n3_; clear hb hbox hg; have hcz14_0 : w13.cell? ⟨gb147, 0, none⟩ = some (.int .u64 0) := (blk_cell BK147.out 0).trans rfl; have hcz14_1 : w13.cell? ⟨gb147, 1, none⟩ = some (.int .u64 0) := (blk_cell BK147.out 1).trans rfl; have hfz14_0 := blk_frozen BK147.out 0; have hfz14_1 := blk_frozen BK147.out 1) | (go_at_call 15; (with_reducible refine (wide_Text.calls k t145 t146 t148 _ A3.out).mono ?_); rintro e w15 ⟨rfl, hb⟩; have n0_ := Aside0.mk (blk_below (g := gb147) (o := .cells #[.int .u64 t145, .int .u64 t146] 25 (0, 0)) (by (with_reducible repeat (first | refine blk_drewN ?_ _ | refine blk_drew ?_ | refine blk_alloc ?_ _)); refine blk_put (cs := #[.int .u64 t145, .int .u64 0]) ?_ 1 _ rfl; (with_reducible repeat (first | refine blk_drewN ?_ _ | refine blk_drew ?_ | refine blk_alloc ?_ _)); refine blk_put (cs := #[.int .u64 0, .int .u64 0]) ?_ 0 _ rfl; (with_reducible repeat (first | refine blk_drewN ?_ _ | refine blk_drew ?_ | refine blk_alloc ?_ _)); exact BK147.out) hb); have n1_ := Aside0.mk (below_step (by repeat (first | (with_reducible first | exact HB.out | apply below_alloc | apply pw_below_drewN | apply below_drew1 | refine below_set ?_ GE147.out) | exact HB.out)) hb); clear BK147; clear HB; have BK147 := n0_; have HB := n1_; clear n0_ n1_; (try clear hb); (try clear hb2); (try clear hk); (try clear hi); have hcz16_0 : w15.cell? ⟨gb147, 0, none⟩ = some (.int .u64 t145) := (blk_cell BK147.out 0).trans rfl; have hcz16_1 : w15.cell? ⟨gb147, 1, none⟩ = some (.int .u64 t146) := (blk_cell BK147.out 1).trans rfl; have hfz16_0 := blk_frozen BK147.out 0; have hfz16_1 := blk_frozen BK147.out 1) | (go_at_call 22; (with_reducible refine (wide_Compare.calls k t145 t146 0 9 t149 _ A5.out).mono ?_); rintro e w17 ⟨rfl, hb⟩; have n0_ := Aside0.mk (blk_below (g := gb147) (o := .cells #[.int .u64 t145, .int .u64 t146] 25 (0, 0)) (by (with_reducible repeat (first | refine blk_drewN ?_ _ | refine blk_drew ?_ | refine blk_alloc ?_ _)); exact BK147.out) hb); have n1_ := Aside0.mk (below_step (by repeat (first | (with_reducible first | exact HB.out | apply below_alloc | apply pw_below_drewN | apply below_drew1 | refine below_set ?_ GE147.out) | exact HB.out)) hb); clear BK147; clear HB; have BK147 := n0_; have HB := n1_; clear n0_ n1_; (try clear hb); (try clear hb2); (try clear hk); (try clear hi)) | (go_at_call 21; (with_reducible refine (wide_Neg.calls 0 1 t150 t151 _ A7.out).mono ?_); rintro e w18 ⟨rfl, hb⟩; have n0_ := Aside0.mk (blk_below (g := gb147) (o := .cells #[.int .u64 t145, .int .u64 t146] 25 (0, 0)) (by (with_reducible repeat (first | refine blk_drewN ?_ _ | refine blk_drew ?_ | refine blk_alloc ?_ _)); exact BK147.out) hb); have n1_ := Aside0.mk (below_step (by repeat (first | (with_reducible first | exact HB.out | apply below_alloc | apply pw_below_drewN | apply below_drew1 | refine below_set ?_ GE147.out) | exact HB.out)) hb); clear BK147; clear HB; have BK147 := n0_; have HB := n1_; clear n0_ n1_; (try clear hb); (try clear hb2); (try clear hk); (try clear hi)) | (go_at_call 13; (with_reducible refine (wide_Shift.calls 0 1 64 t152 t153 _ A9.out).mono ?_); rintro e w19 ⟨rfl, hb⟩; have n0_ := Aside0.mk (blk_below (g := gb147) (o := .cells #[.int .u64 t145, .int .u64 t146] 25 (0, 0)) (by (with_reducible repeat (first | refine blk_drewN ?_ _ | refine blk_drew ?_ | refine blk_alloc ?_ _)); exact BK147.out) hb); have n1_ := Aside0.mk (below_step (by repeat (first | (with_reducible first | exact HB.out | apply below_alloc | apply pw_below_drewN | apply below_drew1 | refine below_set ?_ GE147.out) | exact HB.out)) hb); clear BK147; clear HB; have BK147 := n0_; have HB := n1_; clear n0_ n1_; (try clear hb); (try clear hb2); (try clear hk); (try clear hi); have hcz20_0 : w19.cell? ⟨gb147, 0, none⟩ = some (.int .u64 t145) := (blk_cell BK147.out 0).trans rfl; have hcz20_1 : w19.cell? ⟨gb147, 1, none⟩ = some (.int .u64 t146) := (blk_cell BK147.out 1).trans rfl; have hfz20_0 := blk_frozen BK147.out 0; have hfz20_1 := blk_frozen BK147.out 1) | (go_at_call 19; (with_reducible refine (wide_Sub.calls t145 t146 t145 t146 t154 t155 _ A11.out).mono ?_); rintro e w21 ⟨rfl, hb⟩; have n0_ := Aside0.mk (blk_below (g := gb147) (o := .cells #[.int .u64 t145, .int .u64 t146] 25 (0, 0)) (by (with_reducible repeat (first | refine blk_drewN ?_ _ | refine blk_drew ?_ | refine blk_alloc ?_ _)); exact BK147.out) hb); have n1_ := Aside0.mk (below_step (by repeat (first | (with_reducible first | exact HB.out | apply below_alloc | apply pw_below_drewN | apply below_drew1 | refine below_set ?_ GE147.out) | exact HB.out)) hb); clear BK147; clear HB; have BK147 := n0_; have HB := n1_; clear n0_ n1_; (try clear hb); (try clear hb2); (try clear hk); (try clear hi)))
            go_ret
            exact ⟨by first | rfl | (simp [errW_none, errW_some] <;> rfl) | (simp [*, errW_none, errW_some] <;> rfl), by repeat (first | (with_reducible first | exact HB.out | apply below_alloc | apply pw_below_drewN | apply below_drew1 | refine below_set ?_ GE147.out) | exact HB.out)⟩
          · rw [if_neg c10] at H
            exact absurd H (by simp)
        · rw [if_neg c8] at H
          exact absurd H (by simp)
      · rw [if_neg c6] at H
        exact absurd H (by simp)
    · rw [if_neg c4] at H
      exact absurd H (by simp)
  · rw [if_neg c2] at H
    exact absurd H (by simp)

/-! ### offertoryref09_Of: function 11 -/
def offertoryref09_Of.f (a0_0 a0_1 : Int) : Option (Int × Int × Int × Int × Int × Int × Int × Int) :=
  if (0 ≤ a0_0 ∧ a0_0 ≤ 18446744073709551615) ∧ (0 ≤ a0_1 ∧ a0_1 ≤ 18446744073709551615) then some (digs (a0_1 + a0_0 * 18446744073709551616)) else none
set_option maxHeartbeats 800000 in
set_option maxRecDepth 100000 in
theorem offertoryref09_Of.calls (a0_0 a0_1 r1 r2 r3 r4 r5 r6 r7 r8 : Int) (w : World) (h : offertoryref09_Of.f a0_0 a0_1 = some (r1, r2, r3, r4, r5, r6, r7, r8)) :
    Calls Try.prog 11 #[.agg #[.int .u64 a0_0, .int .u64 a0_1]] w fun e w' => e = .returned (.agg #[.int .u32 r1, .int .u32 r2, .int .u32 r3, .int .u32 r4, .int .u32 r5, .int .u32 r6, .int .u32 r7, .int .u32 r8]) ∧ Below w.heap.size w w' := by
  unfold offertoryref09_Of.f at h
  split at h
  case isFalse => cases h
  rename_i hr
  have H := Aside0.mk h
  clear h
  obtain ⟨⟨h0, h1⟩, l0, l1⟩ := hr
  have hu29 := Try.underlying29
  have hu25 := Try.underlying25
  go_enter Try.func11, Try.ntmps11
  go_wp2
  refine wp_loop_rounds 5 ?_
  rw [rounds_succ]
  go_wp2
  rw [rounds_succ]
  go_wp2
  rw [rounds_succ]
  go_wp2
  rw [rounds_succ]
  go_wp2
  rw [rounds_succ]
  go_wp2
  refine bodyPost_ret (v := .agg #[.int .u32 (bits .and .u64 a0_1 65535 % 4294967296), .int .u32 (bits .and .u64 (a0_1 / 65536) 65535 % 4294967296), .int .u32 (bits .and .u64 (a0_1 / 4294967296) 65535 % 4294967296), .int .u32 (bits .and .u64 (a0_1 / 281474976710656) 65535 % 4294967296), .int .u32 (bits .and .u64 a0_0 65535 % 4294967296), .int .u32 (bits .and .u64 (a0_0 / 65536) 65535 % 4294967296), .int .u32 (bits .and .u64 (a0_0 / 4294967296) 65535 % 4294967296), .int .u32 (bits .and .u64 (a0_0 / 281474976710656) 65535 % 4294967296)]) (by simp [results, Try.results11, go_sem]) rfl ⟨?_, ?_⟩
  · have h := H.out
    simp only [Option.some.injEq, digs, Prod.mk.injEq] at h
    obtain ⟨rfl, rfl, rfl, rfl, rfl, rfl, rfl, rfl⟩ := h
    have e0 : bits .and .u64 a0_1 65535 % 4294967296 = bigD (a0_1 + a0_0 * 18446744073709551616) 0 := by rw [and_65535 (by omega) (by omega)]; simp only [bigD]; omega
    have e1 : bits .and .u64 (a0_1 / 65536) 65535 % 4294967296 = bigD (a0_1 + a0_0 * 18446744073709551616) 1 := by rw [and_65535 (by omega) (by omega)]; simp only [bigD]; omega
    have e2 : bits .and .u64 (a0_1 / 4294967296) 65535 % 4294967296 = bigD (a0_1 + a0_0 * 18446744073709551616) 2 := by rw [and_65535 (by omega) (by omega)]; simp only [bigD]; omega
    have e3 : bits .and .u64 (a0_1 / 281474976710656) 65535 % 4294967296 = bigD (a0_1 + a0_0 * 18446744073709551616) 3 := by rw [and_65535 (by omega) (by omega)]; simp only [bigD]; omega
    have e4 : bits .and .u64 a0_0 65535 % 4294967296 = bigD (a0_1 + a0_0 * 18446744073709551616) 4 := by rw [and_65535 (by omega) (by omega)]; simp only [bigD]; omega
    have e5 : bits .and .u64 (a0_0 / 65536) 65535 % 4294967296 = bigD (a0_1 + a0_0 * 18446744073709551616) 5 := by rw [and_65535 (by omega) (by omega)]; simp only [bigD]; omega
    have e6 : bits .and .u64 (a0_0 / 4294967296) 65535 % 4294967296 = bigD (a0_1 + a0_0 * 18446744073709551616) 6 := by rw [and_65535 (by omega) (by omega)]; simp only [bigD]; omega
    have e7 : bits .and .u64 (a0_0 / 281474976710656) 65535 % 4294967296 = bigD (a0_1 + a0_0 * 18446744073709551616) 7 := by rw [and_65535 (by omega) (by omega)]; simp only [bigD]; omega
    rw [e0, e1, e2, e3, e4, e5, e6, e7]
  · repeat (first | (with_reducible exact Below.refl _ _) | apply below_alloc)


/-! ### offertoryref09_Text: function 16 -/
/-! ### the document's Text (seat 09) -/
/-- One digit down: a long division by ten, from the top. -/
def tx : Nat → List Int → Int → Bool → List Int × Int × Bool
  | 0, ys, r, s => (ys, r, s)
  | i + 1, ys, r, s => tx i (ys.set i ((r * 65536 + ys.getD i 0) / 10)) ((r * 65536 + ys.getD i 0) % 10) (s || decide (0 < (r * 65536 + ys.getD i 0) / 10))
def Dl (ys : List Int) : Prop := ys.length = 8 ∧ ∀ j, j < 8 → 0 ≤ ys.getD j 0 ∧ ys.getD j 0 ≤ 65535
theorem Dl.set {ys : List Int} (h : Dl ys) {i : Nat} {v : Int} (h0 : 0 ≤ v) (h1 : v ≤ 65535) : Dl (ys.set i v) := by
  refine ⟨by simp [h.1], fun j hj => ?_⟩
  have hl := h.1
  by_cases e : i = j
  · subst e
    simp [List.getD, hl, hj, h0, h1]
  · have := h.2 j hj
    simpa [List.getD, List.getElem?_set_ne e] using this
instance (ys : List Int) : Decidable (Dl ys) := by unfold Dl; infer_instance
def offertoryref09_Text.l0 : Nat → List Int → ByteArray → Option ByteArray
  | 0, _, _ => none
  | k + 1, ys, out => if 1000 < out.size then none else if (tx 8 ys 0 false).2.2 = true then offertoryref09_Text.l0 k (tx 8 ys 0 false).1 (strOfNums [(48 + (tx 8 ys 0 false).2.1) % 256] ++ out) else some (strOfNums [(48 + (tx 8 ys 0 false).2.1) % 256] ++ out)
def offertoryref09_Text.f (k : Nat) (a0 a1 a2 a3 a4 a5 a6 a7 : Int) : Option ByteArray :=
  if Dl [a0, a1, a2, a3, a4, a5, a6, a7] then offertoryref09_Text.l0 k [a0, a1, a2, a3, a4, a5, a6, a7] ByteArray.empty else none
theorem offertoryref09_Text.mono_l : ∀ k, ∀ y0 y1, LeO (offertoryref09_Text.l0 k y0 y1) (offertoryref09_Text.l0 (k + 1) y0 y1)
  | 0 => fun _ _ r h => by simp [offertoryref09_Text.l0] at h
  | k + 1 => by
    intro y0 y1
    have ih := offertoryref09_Text.mono_l k
    unfold offertoryref09_Text.l0
    exact LeO.ite (LeO.refl _) (LeO.ite (ih _ _) (LeO.refl _))
theorem offertoryref09_Text.mono : ∀ a0 a1 a2 a3 a4 a5 a6 a7 k, LeO (offertoryref09_Text.f k a0 a1 a2 a3 a4 a5 a6 a7) (offertoryref09_Text.f (k + 1) a0 a1 a2 a3 a4 a5 a6 a7) := by
  intro a0 a1 a2 a3 a4 a5 a6 a7 k
  unfold offertoryref09_Text.f
  exact LeO.ite (offertoryref09_Text.mono_l k _ _) (LeO.refl _)
theorem tx_dl : ∀ (i : Nat) (ys : List Int) (r : Int) (s : Bool), i ≤ 8 → Dl ys → 0 ≤ r → r ≤ 9 → Dl (tx i ys r s).1 ∧ 0 ≤ (tx i ys r s).2.1 ∧ (tx i ys r s).2.1 ≤ 9
  | 0, ys, r, s, _, h, h0, h1 => ⟨h, h0, h1⟩
  | i + 1, ys, r, s, hi, h, h0, h1 => by
    have hd := h.2 i (by omega)
    unfold tx
    exact tx_dl i _ _ _ (by omega) (h.set (by omega) (by omega)) (by omega) (by omega)
theorem lit_string {P : Program} {w : World} {src dst e : TypeId} (hs : P.underlying src = some (.slice e)) (he : P.underlying e = some (.int .u8)) (hd : P.underlying dst = some .string) (c : Int) :
    (convert src dst (.slice (some ⟨w.heap.size, 0, none⟩) 1 1)).run P (w.alloc (.cells #[.int .u8 c] e)) = .ok (.string (strOfNums [c])) (w.alloc (.cells #[.int .u8 c] e)) := by
  have hb := blk_new w (.cells #[.int .u8 c] e)
  have hR0 : (Kd.int .u8).R e (w.alloc (.cells #[.int .u8 c] e)) 0 (fun _ => True) (.slice (some ⟨w.heap.size, 0, none⟩) 1 1) [c] :=
    Kd.R_of_own ⟨by simp [encs], Or.inr ⟨w.heap.size, 1, _, rfl, Nat.zero_le _, hb, Nat.le_refl _, by simp [maxLen], by simp, by simp [encs]⟩⟩ (fun _ _ => trivial)
  exact Kd.C_string hs he hd (Kd.R_reads' hR0).2.2
theorem conv1 (w : World) (rr : Int) : (convert 51 9 (.slice (some ⟨w.heap.size, 0, none⟩) 1 1)).run Try.prog (w.alloc (.cells #[.int .u8 ((48 + rr) % 256)] 5)) = .ok (.string (strOfNums [(48 + rr) % 256])) (w.alloc (.cells #[.int .u8 ((48 + rr) % 256)] 5)) :=
  lit_string Try.underlying51 Try.underlying5 Try.underlying9 _
theorem strOfNums_size (l : List Int) : (strOfNums l).size = l.length := by
  unfold strOfNums
  simp [ByteArray.size]
set_option maxHeartbeats 8000000 in
set_option maxRecDepth 100000 in
theorem offertoryref09_Text.calls (k : Nat) (a0 a1 a2 a3 a4 a5 a6 a7 : Int) (r : ByteArray) (w : World) (h : offertoryref09_Text.f k a0 a1 a2 a3 a4 a5 a6 a7 = some r) :
    Calls Try.prog 16 #[.agg #[.int .u32 a0, .int .u32 a1, .int .u32 a2, .int .u32 a3, .int .u32 a4, .int .u32 a5, .int .u32 a6, .int .u32 a7]] w fun e w' => e = .returned (.string r) ∧ Below w.heap.size w w' := by
  unfold offertoryref09_Text.f at h
  split at h
  case isFalse => cases h
  rename_i hD
  have HD := Aside0.mk hD
  have H := Aside0.mk h
  clear h hD
  go_enter Try.func16, Try.ntmps16
  go_wp2_with fail
  have HB := Aside0.mk (below_alloc (Below.refl w.heap.size w) (.cells #[.int .u32 a0, .int .u32 a1, .int .u32 a2, .int .u32 a3, .int .u32 a4, .int .u32 a5, .int .u32 a6, .int .u32 a7] 29))
  have HH := Aside0.mk (blk_new w (.cells #[.int .u32 a0, .int .u32 a1, .int .u32 a2, .int .u32 a3, .int .u32 a4, .int .u32 a5, .int .u32 a6, .int .u32 a7] 29))
  have hds : (#[.int .u32 a0, .int .u32 a1, .int .u32 a2, .int .u32 a3, .int .u32 a4, .int .u32 a5, .int .u32 a6, .int .u32 a7] : Array Value) = ([a0, a1, a2, a3, a4, a5, a6, a7].map (Value.int .u32)).toArray := rfl
  rw [hds] at HB HH ⊢
  obtain ⟨w2, ew⟩ : ∃ x, x = w.alloc (.cells ([a0, a1, a2, a3, a4, a5, a6, a7].map (Value.int .u32)).toArray 29) := ⟨_, rfl⟩
  rw [← ew] at HB HH ⊢
  clear ew hds
  obtain ⟨gb, egb⟩ : ∃ x, x = w.heap.size := ⟨_, rfl⟩
  rw [← egb] at HH ⊢
  have EGB := Aside0.mk egb
  clear egb
  generalize [a0, a1, a2, a3, a4, a5, a6, a7] = zs at *
  go_loopg [3] k (fun kq v3 w' => ∃ (xs : List Int) (out : ByteArray), v3 = .string out ∧ Aside0 (kq ≤ k) ∧ Aside0 (offertoryref09_Text.l0 kq xs out = some r) ∧ Aside0 (Dl xs) ∧ Aside0 (w'.heap[gb]? = some (.cells ((xs.map (Value.int .u32)).toArray) 29 (0, 0))) ∧ Aside0 (Below w.heap.size w w'))
  case atStart => exact ⟨zs, ByteArray.empty, rfl, ⟨Nat.le_refl _⟩, H, HD, HH, HB⟩
  case round =>
    clear HB HH H HD
    obtain ⟨xs, out, rfl, HK, H, HD, HH, HB⟩ := hrel
    cases gk with
    | zero => exact absurd H.out (by simp [offertoryref09_Text.l0])
    | succ k1 =>
      obtain ⟨FIN, ef⟩ : ∃ x, x = tx 8 xs 0 false := ⟨_, rfl⟩
      have EF := Aside0.mk ef
      have HF := Aside0.mk (tx_dl 8 xs 0 false (by omega) HD.out (by omega) (by omega))
      rw [← ef] at HF
      clear ef
      go_wp2_with fail
      go_loopg [4, 5, 6] 8 (fun kq v4 v5 v6 w' => ∃ (ys : List Int) (rr : Int) (sm : Bool) (x : Int), v4 = .int .u32 rr ∧ v5 = .bool sm ∧ v6 = .int .i64 x ∧ Aside0 (x = (kq : Int) - 1) ∧ Aside0 (kq ≤ 8) ∧ Aside0 (tx kq ys rr sm = FIN) ∧ Aside0 (0 ≤ rr ∧ rr ≤ 9) ∧ Aside0 (Dl ys) ∧ Aside0 (w'.heap[gb]? = some (.cells ((ys.map (Value.int .u32)).toArray) 29 (0, 0))) ∧ Aside0 (Below w.heap.size w w'))
      case atStart => exact ⟨xs, 0, false, 7, rfl, rfl, rfl, ⟨by omega⟩, ⟨by omega⟩, ⟨EF.out.symm⟩, ⟨by omega⟩, HD, HH, HB⟩
      case round =>
        clear HH HB HD
        obtain ⟨ys, rr, sm, x, rfl, rfl, rfl, HX, HK2, HT, HR, HD, HH, HB⟩ := hrel
        cases gk with
        | zero =>
          have e1 := HT.out
          have hx := HX.out
          have c1 : decide (0 ≤ x) = false := decide_eq_false (by omega)
          have c2 : decide (x ≥ 0) = false := decide_eq_false (by omega)
          unfold tx at e1
          have HE := Aside0.mk e1
          have h := H.out
          unfold offertoryref09_Text.l0 at h
          rw [← EF.out, ← e1] at h
          simp only at h
          split at h
          case isTrue => cases h
          rename_i hsz
          have hsz1 : ¬ (9223372036854775807 < (strOfNums [(48 + rr) % 256]).size + out.size) := by rw [strOfNums_size]; simp only [List.length_cons, List.length_nil]; omega
          have hsz2 : ¬ (((strOfNums [(48 + rr) % 256]).size + out.size : Nat) : Int) > IntKind.i64.max := by rw [show IntKind.i64.max = 9223372036854775807 from rfl]; omega
          have hsz3 := eq_false hsz2
          have hcv := conv1 wr rr
          have HB2 := Aside0.mk (below_alloc HB.out (.cells #[.int .u8 ((48 + rr) % 256)] 5))
          have HH2 := Aside0.mk (blk_alloc HH.out (.cells #[.int .u8 ((48 + rr) % 256)] 5))
          have HD2 := Aside0.mk HD.out
          clear e1 hx HT H
          cases hs : sm with
          | false =>
            rw [hs, if_neg (by decide)] at h
            obtain rfl := Option.some.inj h
            clear h
            go_wp2_with (rw [hcv])
            go_ret
            exact ⟨by first | rfl | (simp; done), HB2.out⟩
          | true =>
            rw [hs, if_pos rfl] at h
            have H2 := Aside0.mk h
            clear h
            go_wp2_with (rw [hcv])
            go_roundg k1
            case measure => have := HK.out; omega
            case rel => exact ⟨ys, _, rfl, ⟨by have := HK.out; omega⟩, H2, HD2, HH2, HB2⟩
        | succ k2 =>
          have hk := HK2.out
          have hr := HR.out
          have hx := HX.out
          have hd := HD.out.2 k2 (by omega)
          have hl := HD.out.1
          obtain ⟨y, ey⟩ : ∃ y, y = ys.getD k2 0 := ⟨_, rfl⟩
          have e1 := HT.out
          unfold tx at e1
          rw [← ey] at hd e1
          have ex : x = (k2 : Int) := by omega
          subst ex
          have c1 : decide (0 ≤ (k2 : Int)) = true := decide_eq_true (by omega)
          have xb : decide ((k2 : Int) < 8) = true := decide_eq_true (by omega)
          have xb2 : k2 < 8 := by omega
          have xb3 : decide (k2 < 8) = true := decide_eq_true (by omega)
          have xb4 : ((k2 : Int) < 8) = True := eq_true (by omega)
          have hw1 : IntKind.u32.wrap (rr * 65536) = rr * 65536 := by rw [show IntKind.u32.wrap (rr * 65536) = (rr * 65536) % 4294967296 from rfl]; omega
          have hw2 : (rr * 65536 + y) % 4294967296 = rr * 65536 + y := by omega
          have hcell : wr.cell? ⟨gb, k2, none⟩ = some (.int .u32 y) := by
            rw [blk_cell HH.out, ey]
            have hl2 : k2 < ys.length := by omega
            simp [List.getD, hl2]
          have hfz := blk_frozen HH.out k2
          have HS := Aside0.mk (blk_set HH.out k2 (.int .u32 ((rr * 65536 + y) / 10)))
          rw [show (((ys.map (Value.int .u32)).toArray).setIfInBounds k2 (.int .u32 ((rr * 65536 + y) / 10))) = ((ys.set k2 ((rr * 65536 + y) / 10)).map (Value.int .u32)).toArray by simp [List.map_set]] at HS
          have HR2 := Aside0.mk (show 0 ≤ (rr * 65536 + y) % 10 ∧ (rr * 65536 + y) % 10 ≤ 9 by omega)
          have HD2 := Aside0.mk (HD.out.set (i := k2) (v := (rr * 65536 + y) / 10) (by omega) (by omega))
          have HB2 : Aside0 (Below w.heap.size w (wr.setCell ⟨gb, k2, none⟩ (.int .u32 ((rr * 65536 + y) / 10)))) := ⟨HB.out.setCell (by have := EGB.out; show w.heap.size ≤ gb; omega) _⟩
          have HE := Aside0.mk e1
          have HY := Aside0.mk ey
          clear e1 HT hk hr hx hd hl ey HR HD
          cases hs : sm with
          | false =>
            rw [hs, Bool.false_or] at HE
            clear hs
            go_wp2_with fail
            go_roundg k2
            case measure => omega
            case rel => exact ⟨_, _, _, _, rfl, rfl, rfl, ⟨rfl⟩, ⟨by have := HK2.out; omega⟩, HE, HR2, HD2, HS, HB2⟩
          | true =>
            rw [hs, Bool.true_or] at HE
            clear hs
            go_wp2_with fail
            go_roundg k2
            case measure => omega
            case rel => exact ⟨_, _, _, _, rfl, rfl, rfl, ⟨rfl⟩, ⟨by have := HK2.out; omega⟩, HE, HR2, HD2, HS, HB2⟩

theorem offertorylaw09_WideTexts.keepB {W0 W w1 : World} {g : Nat} {o : Obj} (h : Aside0 (W0.heap[g]? = some o)) (hb : Below W.heap.size W w1) (hs : W0.heap[g]? = some o → W.heap[g]? = some o := by intro h_; (with_reducible repeat (first | refine blk_drewN ?_ _ | refine blk_drew ?_ | refine blk_alloc ?_ _)); exact h_) : Aside0 (w1.heap[g]? = some o) := ⟨(hb.block g (blk_lt (hs h.out))).trans (hs h.out)⟩
theorem offertorylaw09_WideTexts.neL {W0 W : World} {g gb : Nat} {o : Obj} (h : Aside0 (W0.heap[g]? = some o)) (hg : gb = W.heap.size) (hs : W0.heap[g]? = some o → W.heap[g]? = some o := by intro h_; (with_reducible repeat (first | refine blk_drewN ?_ _ | refine blk_drew ?_ | refine blk_alloc ?_ _)); exact h_) : Aside0 (g ≠ gb) := ⟨by rw [hg]; exact Nat.ne_of_lt (blk_lt (hs h.out))⟩
theorem offertorylaw09_WideTexts.neG {W0 W : World} {g gb : Nat} {o : Obj} (h : Aside0 (W0.heap[g]? = some o)) (hg : gb = W.heap.size) (hs : W0.heap[g]? = some o → W.heap[g]? = some o := by intro h_; (with_reducible repeat (first | refine blk_drewN ?_ _ | refine blk_drew ?_ | refine blk_alloc ?_ _)); exact h_) : Aside0 (gb ≠ g) := ⟨by rw [hg]; exact Nat.ne_of_gt (blk_lt (hs h.out))⟩
/-! ### offertorylaw09_WideTexts: function 5 -/
def offertorylaw09_WideTexts.f (k : Nat) (a0_0 : Int) (a0_1 : Int) : Option (Bool) := (offertorylaw09_awake.f k).bind fun t157 => (if t157 = true then ((wide_Text.f k a0_0 a0_1).bind fun t158 => ((offertoryref09_Of.f a0_0 a0_1).bind fun bt159 => ((offertoryref09_Text.f k bt159.1 bt159.2.1 bt159.2.2.1 bt159.2.2.2.1 bt159.2.2.2.2.1 bt159.2.2.2.2.2.1 bt159.2.2.2.2.2.2.1 bt159.2.2.2.2.2.2.2).bind fun t167 => (some (t158.toList == t167.toList))))) else (none))
theorem offertorylaw09_WideTexts.mono : ∀ a0 a1 k, LeO (offertorylaw09_WideTexts.f k a0 a1) (offertorylaw09_WideTexts.f (k + 1) a0 a1) := by
  intro a0 a1 k
  unfold offertorylaw09_WideTexts.f
  repeat' first
      | (with_reducible exact offertorylaw09_awake.mono _)
      | (with_reducible exact offertoryref09_Text.mono _ _ _ _ _ _ _ _ _)
      | (with_reducible exact wide_Text.mono _ _ _)
      | (with_reducible exact LeO.refl _)
      | (with_reducible exact LeO.none _)
      | (with_reducible refine LeO.ite ?_ ?_)
      | (with_reducible refine LeO.bind ?_ (fun _ => ?_))
      | exact offertorylaw09_awake.mono _
      | exact offertoryref09_Text.mono _ _ _ _ _ _ _ _ _
      | exact wide_Text.mono _ _ _
      | exact LeO.none _
      | refine LeO.ite ?_ ?_
      | refine LeO.bind ?_ (fun _ => ?_)
def offertorylaw09_WideTexts.T1 : Bool × List (List Nat × List Nat) := (true, [([], []), ([0, 0], [0]), ([1], [1]), ([2, 1, 1], [1, 2]), ([1], [1]), ([4, 3, 1], [1, 4]), ([5, 5, 1], [1, 5]), ([3, 6, 1], [1, 3, 6]), ([1, 7], [1, 7]), ([8, 6, 0, 1, 2, 3, 4, 5, 6, 7, 8], [8])])
def offertorylaw09_WideTexts.B1 : List Nat := [0, 1, 3, 7, 3, 31, 63, 127, 255, 511]
theorem offertorylaw09_WideTexts.tab1 : rtab .any (opsOf Try.f5 1) = offertorylaw09_WideTexts.T1 := by kernel_rfl
theorem offertorylaw09_WideTexts.bits1 : waitsOk offertorylaw09_WideTexts.T1.2 offertorylaw09_WideTexts.B1 = true := by kernel_rfl
set_option maxHeartbeats 8000000 in
set_option maxRecDepth 100000 in
theorem offertorylaw09_WideTexts.calls (k : Nat) (a0_0 : Int) (a0_1 : Int) (r : Bool) (w : World) (h : offertorylaw09_WideTexts.f k a0_0 a0_1 = some r) :
    Calls Try.prog 5 #[.agg #[.int .u64 a0_0, .int .u64 a0_1]] w fun e w' => e = .returned (.bool r) ∧ Below w.heap.size w w' := by
  have hu25 := Try.underlying25
  have HB := Aside0.mk (Below.refl w.heap.size w)
  have H : ((offertorylaw09_awake.f k).bind fun t157 => (if t157 = true then ((wide_Text.f k a0_0 a0_1).bind fun t158 => ((offertoryref09_Of.f a0_0 a0_1).bind fun bt159 => ((offertoryref09_Text.f k bt159.1 bt159.2.1 bt159.2.2.1 bt159.2.2.2.1 bt159.2.2.2.2.1 bt159.2.2.2.2.2.1 bt159.2.2.2.2.2.2.1 bt159.2.2.2.2.2.2.2).bind fun t167 => (some (t158.toList == t167.toList))))) else (none))) = some r := h
  clear h
  replace H := Option.bind_eq_some_iff.mp H
  obtain ⟨t157, A20, H⟩ := H
  replace H : (if t157 = true then ((wide_Text.f k a0_0 a0_1).bind fun t158 => ((offertoryref09_Of.f a0_0 a0_1).bind fun bt159 => ((offertoryref09_Text.f k bt159.1 bt159.2.1 bt159.2.2.1 bt159.2.2.2.1 bt159.2.2.2.2.1 bt159.2.2.2.2.2.1 bt159.2.2.2.2.2.2.1 bt159.2.2.2.2.2.2.2).bind fun t167 => (some (t158.toList == t167.toList))))) else (none)) = some r := H
  have A2 := Aside0.mk A20
  clear A20
  by_cases c3 : t157 = true
  · subst c3
    have H1 : ((wide_Text.f k a0_0 a0_1).bind fun t158 => ((offertoryref09_Of.f a0_0 a0_1).bind fun bt159 => ((offertoryref09_Text.f k bt159.1 bt159.2.1 bt159.2.2.1 bt159.2.2.2.1 bt159.2.2.2.2.1 bt159.2.2.2.2.2.1 bt159.2.2.2.2.2.2.1 bt159.2.2.2.2.2.2.2).bind fun t167 => (some (t158.toList == t167.toList))))) = some r := by rw [if_pos rfl] at H; exact H
    clear H
    have H := H1
    clear H1
    replace H := Option.bind_eq_some_iff.mp H
    obtain ⟨t158, A40, H⟩ := H
    replace H : ((offertoryref09_Of.f a0_0 a0_1).bind fun bt159 => ((offertoryref09_Text.f k bt159.1 bt159.2.1 bt159.2.2.1 bt159.2.2.2.1 bt159.2.2.2.2.1 bt159.2.2.2.2.2.1 bt159.2.2.2.2.2.2.1 bt159.2.2.2.2.2.2.2).bind fun t167 => (some (t158.toList == t167.toList)))) = some r := H
    have A4 := Aside0.mk A40
    clear A40
    replace H := Option.bind_eq_some_iff.mp H
    obtain ⟨⟨t159, t160, t161, t162, t163, t164, t165, t166⟩, A50, H⟩ := H
    replace H : ((offertoryref09_Text.f k t159 t160 t161 t162 t163 t164 t165 t166).bind fun t167 => (some (t158.toList == t167.toList))) = some r := H
    have A5 := Aside0.mk A50
    clear A50
    replace H := Option.bind_eq_some_iff.mp H
    obtain ⟨t167, A60, H⟩ := H
    replace H : (some (t158.toList == t167.toList)) = some r := H
    have A6 := Aside0.mk A60
    clear A60
    obtain rfl := Option.some.inj H
    go_enter Try.func5, Try.ntmps5
    try go_wp2_with (first | ((with_reducible refine gate_dst (N := 1) rfl ?_); refine box_event ?hg (N := 1) ?hd (cs := #[.int .u64 a0_0, .int .u64 a0_1]) (t := 25) ?hr ?_; (case hd => rfl); (case hg => rfl); (case hr => first | (go_simp; done) | (go_simp; rfl)); intro gb156 hg w7 hbox hb; have n0_ := Aside0.mk (below_step (by repeat (first | (with_reducible first | exact HB.out | apply below_alloc | apply pw_below_drewN | apply below_drew1) | exact HB.out)) hb); have n1_ := Aside0.mk (hbox); have n2_ := Aside0.mk ((by rw [hg]; exact (below_size (by repeat (first | (with_reducible first | exact HB.out | apply below_alloc | apply pw_below_drewN | apply below_drew1) | exact HB.out))) : w.heap.size ≤ gb156)); have n3_ := Aside0.mk ((by rw [hg]; exact (below_size (by repeat (first | (with_reducible first | exact HB.out | apply below_alloc | apply pw_below_drewN | apply below_drew1) | exact HB.out))) : w.heap.size ≤ gb156)); clear HB; have HB := n0_; have BK156 := n1_; have GW156 := n2_; have GE156 := n3_; clear n0_ n1_ n2_ n3_; clear hb hbox hg))
    have n0_ := Aside0.mk (blk_drew BK156.out)
    have n1_ := Aside0.mk (below_drew1 HB.out)
    clear BK156
    clear HB
    have BK156 := n0_
    have HB := n1_
    clear n0_ n1_
    refine start_ (n := 10) (S := fun w' => w'.cell? ⟨gb156, 0, none⟩ = some (.int .u64 a0_0) ∧ w'.cell? ⟨gb156, 1, none⟩ = some (.int .u64 a0_1)) (ds := []) #[false, false, false, false, false, false, false, false, false, false] (by kernel_rfl) rfl rfl ⟨(blk_cell BK156.out 0).trans rfl, (blk_cell BK156.out 1).trans rfl⟩ (fun hHeld => ?_); refine with_tabW offertorylaw09_WideTexts.tab1 offertorylaw09_WideTexts.bits1 (fun HT_ HW_ => ?_)
    generalize w7.drew = w8 at BK156 HB hHeld ⊢
    refine one_ (i := 0) (N := some 3) #[true, false, false, false, false, false, false, false, false, false] rfl rfl (one_of HT_.out (by kernel_rfl)) (by decide) (fun K hK => ?_)
    refine goes_ Try.func8 (by kernel_rfl) rfl #[] (by rfl) rfl rfl (by (try simp only [List.map_toArray, List.map_cons, List.map_nil]); first | done | rfl | (simp only [List.length_drop, List.length_take]; rfl)) ?_
    with_reducible refine (offertorylaw09_awake.calls k  true _ A2.out).mono ?_
    rintro e w9 ⟨rfl, hb⟩
    refine ⟨_, rfl, ?_⟩
    have n0_ := offertorylaw09_WideTexts.keepB BK156 hb
    have n1_ := Aside0.mk (below_step (by repeat (first | (with_reducible first | exact HB.out | apply below_alloc | apply pw_below_drewN | apply below_drew1 | refine below_set ?_ GE156.out) | exact HB.out)) hb)
    clear BK156
    clear HB
    have BK156 := n0_
    have HB := n1_
    clear n0_ n1_
    (try clear hb)
    (try clear hb2)
    (try clear hk)
    (try clear hi)
    refine hK.out _ _ ⟨(blk_cell BK156.out 0).trans rfl, (blk_cell BK156.out 1).trans rfl⟩ (fun hHeld => ?_)
    clear hK K
    refine norm_ (a' := ?_) ?_ ?_
    rotate_left
    · show Act.put _ (some 3) _ = _
      simp only [Act.put, List.setIfInBounds_toArray, List.set_cons_zero, List.set_cons_succ, i64_w, i32_w]
      rfl
    refine pure_ (i := 1) (N := some 4) (v := ?_) (a' := ?_) #[true, true, false, false, false, false, false, false, false, false] rfl rfl (any_of HT_.out (by kernel_rfl)) (fun _ _ _ h => h) (Or.inl ⟨by rfl, ?_⟩) ?_ ?_
    rotate_left
    · intro w'
      (try simp only [add_plain] at s0 s1)
      go_simp
      with_reducible rfl
    rotate_left
    · simp only [Act.put, List.setIfInBounds_toArray, List.set_cons_zero, List.set_cons_succ, i64_w, i32_w]
      rfl
    refine take_ (i := 2) (N := some 5) (v := ?_) (a' := ?_) #[true, true, true, false, false, false, false, false, false, false] rfl rfl (take_ofW HT_.out HW_.out (by kernel_rfl)) (fun _ _ _ h => h) (Or.inl ⟨by rfl, ?_⟩) hHeld ?_ ?_
    rotate_left
    · rintro w' ⟨s0, s1⟩
      (try simp only [add_plain] at s0 s1)
      go_simp
      with_reducible rfl
    rotate_left
    · simp only [Act.put, List.setIfInBounds_toArray, List.set_cons_zero, List.set_cons_succ, i64_w, i32_w]
      rfl
    refine take_ (i := 4) (N := some 7) (v := ?_) (a' := ?_) #[true, true, true, false, true, false, false, false, false, false] rfl rfl (take_ofW HT_.out HW_.out (by kernel_rfl)) (fun _ _ _ h => h) (Or.inl ⟨by rfl, ?_⟩) hHeld ?_ ?_
    rotate_left
    · rintro w' ⟨s0, s1⟩
      (try simp only [add_plain] at s0 s1)
      go_simp
      with_reducible rfl
    rotate_left
    · simp only [Act.put, List.setIfInBounds_toArray, List.set_cons_zero, List.set_cons_succ, i64_w, i32_w]
      rfl
    refine one_ (i := 3) (N := some 6) #[true, true, true, true, true, false, false, false, false, false] rfl rfl (one_of HT_.out (by kernel_rfl)) (by decide) (fun K hK => ?_)
    refine goes_ Try.func15 (by kernel_rfl) rfl #[.agg #[.int .u64 a0_0, .int .u64 a0_1]] (by rfl) rfl rfl (by (try simp only [List.map_toArray, List.map_cons, List.map_nil]); first | done | rfl | (simp only [List.length_drop, List.length_take]; rfl)) ?_
    with_reducible refine (wide_Text.calls k a0_0 a0_1 t158 _ A4.out).mono ?_
    rintro e w10 ⟨rfl, hb⟩
    refine ⟨_, rfl, ?_⟩
    have n0_ := offertorylaw09_WideTexts.keepB BK156 hb
    have n1_ := Aside0.mk (below_step (by repeat (first | (with_reducible first | exact HB.out | apply below_alloc | apply pw_below_drewN | apply below_drew1 | refine below_set ?_ GE156.out) | exact HB.out)) hb)
    clear BK156
    clear HB
    have BK156 := n0_
    have HB := n1_
    clear n0_ n1_
    (try clear hb)
    (try clear hb2)
    (try clear hk)
    (try clear hi)
    refine hK.out _ _ ⟨(blk_cell BK156.out 0).trans rfl, (blk_cell BK156.out 1).trans rfl⟩ (fun hHeld => ?_)
    clear hK K
    refine norm_ (a' := ?_) ?_ ?_
    rotate_left
    · show Act.put _ (some 6) _ = _
      simp only [Act.put, List.setIfInBounds_toArray, List.set_cons_zero, List.set_cons_succ, i64_w, i32_w]
      rfl
    refine one_ (i := 5) (N := some 8) #[true, true, true, true, true, true, false, false, false, false] rfl rfl (one_of HT_.out (by kernel_rfl)) (by decide) (fun K hK => ?_)
    refine goes_ Try.func11 (by kernel_rfl) rfl #[.agg #[.int .u64 a0_0, .int .u64 a0_1]] (by rfl) rfl rfl (by (try simp only [List.map_toArray, List.map_cons, List.map_nil]); first | done | rfl | (simp only [List.length_drop, List.length_take]; rfl)) ?_
    with_reducible refine (offertoryref09_Of.calls a0_0 a0_1 t159 t160 t161 t162 t163 t164 t165 t166 _ A5.out).mono ?_
    rintro e w11 ⟨rfl, hb⟩
    refine ⟨_, rfl, ?_⟩
    have n0_ := offertorylaw09_WideTexts.keepB BK156 hb
    have n1_ := Aside0.mk (below_step (by repeat (first | (with_reducible first | exact HB.out | apply below_alloc | apply pw_below_drewN | apply below_drew1 | refine below_set ?_ GE156.out) | exact HB.out)) hb)
    clear BK156
    clear HB
    have BK156 := n0_
    have HB := n1_
    clear n0_ n1_
    (try clear hb)
    (try clear hb2)
    (try clear hk)
    (try clear hi)
    refine hK.out _ _ ⟨(blk_cell BK156.out 0).trans rfl, (blk_cell BK156.out 1).trans rfl⟩ (fun hHeld => ?_)
    clear hK K
    refine norm_ (a' := ?_) ?_ ?_
    rotate_left
    · show Act.put _ (some 8) _ = _
      simp only [Act.put, List.setIfInBounds_toArray, List.set_cons_zero, List.set_cons_succ, i64_w, i32_w]
      rfl
    refine one_ (i := 6) (N := some 9) #[true, true, true, true, true, true, true, false, false, false] rfl rfl (one_of HT_.out (by kernel_rfl)) (by decide) (fun K hK => ?_)
    refine goes_ Try.func16 (by kernel_rfl) rfl #[.agg #[.int .u32 t159, .int .u32 t160, .int .u32 t161, .int .u32 t162, .int .u32 t163, .int .u32 t164, .int .u32 t165, .int .u32 t166]] (by rfl) rfl rfl (by (try simp only [List.map_toArray, List.map_cons, List.map_nil]); first | done | rfl | (simp only [List.length_drop, List.length_take]; rfl)) ?_
    with_reducible refine (offertoryref09_Text.calls k t159 t160 t161 t162 t163 t164 t165 t166 t167 _ A6.out).mono ?_
    rintro e w12 ⟨rfl, hb⟩
    refine ⟨_, rfl, ?_⟩
    have n0_ := offertorylaw09_WideTexts.keepB BK156 hb
    have n1_ := Aside0.mk (below_step (by repeat (first | (with_reducible first | exact HB.out | apply below_alloc | apply pw_below_drewN | apply below_drew1 | refine below_set ?_ GE156.out) | exact HB.out)) hb)
    clear BK156
    clear HB
    have BK156 := n0_
    have HB := n1_
    clear n0_ n1_
    (try clear hb)
    (try clear hb2)
    (try clear hk)
    (try clear hi)
    refine hK.out _ _ ⟨(blk_cell BK156.out 0).trans rfl, (blk_cell BK156.out 1).trans rfl⟩ (fun hHeld => ?_)
    clear hK K
    refine norm_ (a' := ?_) ?_ ?_
    rotate_left
    · show Act.put _ (some 9) _ = _
      simp only [Act.put, List.setIfInBounds_toArray, List.set_cons_zero, List.set_cons_succ, i64_w, i32_w]
      rfl
    refine pure_ (i := 7) (N := some 10) (v := ?_) (a' := ?_) #[true, true, true, true, true, true, true, true, false, false] rfl rfl (any_of HT_.out (by kernel_rfl)) (fun _ _ _ h => h) (Or.inl ⟨by rfl, ?_⟩) ?_ ?_
    rotate_left
    · intro w'
      (try simp only [add_plain] at s0 s1)
      go_simp
      with_reducible rfl
    rotate_left
    · simp only [Act.put, List.setIfInBounds_toArray, List.set_cons_zero, List.set_cons_succ, i64_w, i32_w]
      rfl
    refine pure_ (i := 8) (N := some 11) (v := ?_) (a' := ?_) #[true, true, true, true, true, true, true, true, true, false] rfl rfl (any_of HT_.out (by kernel_rfl)) (fun _ _ _ h => h) (Or.inl ⟨by rfl, ?_⟩) ?_ ?_
    rotate_left
    · intro w'
      (try simp only [add_plain] at s0 s1)
      go_simp
      with_reducible rfl
    rotate_left
    · simp only [Act.put, List.setIfInBounds_toArray, List.set_cons_zero, List.set_cons_succ, i64_w, i32_w]
      rfl
    refine pure_ (i := 9) (N := some 2) (v := ?_) (a' := ?_) #[true, true, true, true, true, true, true, true, true, true] rfl rfl (any_of HT_.out (by kernel_rfl)) (fun _ _ _ h => h) (Or.inl ⟨by rfl, ?_⟩) ?_ ?_
    rotate_left
    · intro w'
      (try simp only [add_plain] at s0 s1)
      go_simp
      with_reducible rfl
    rotate_left
    · simp only [Act.put, List.setIfInBounds_toArray, List.set_cons_zero, List.set_cons_succ, i64_w, i32_w]
      rfl
    refine done_ (done_of HT_.out (by kernel_rfl)) ?_
    try go_wp2
    go_ret
    exact ⟨by first | rfl | (simp [errW_none, errW_some] <;> rfl) | (simp [*, errW_none, errW_some] <;> rfl), by repeat (first | (with_reducible first | exact HB.out | apply below_alloc | apply pw_below_drewN | apply below_drew1 | refine below_set ?_ GE156.out) | exact HB.out)⟩
  · replace c3 := Bool.eq_false_iff.mpr c3
    subst c3
    have H1 : (none) = some r := by rw [if_neg (show ¬ (false = true) by decide)] at H; exact H
    clear H
    have H := H1
    clear H1
    exact absurd H (by simp)

end Go.Proofs.Ytaldennkcafceaa.PAll
