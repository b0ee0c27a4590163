/- The Go functions that the laws reach, as Lean functions, and that each call comes to what its function says. Written by a program of this session (a turned copy of the kit's print). No condition beyond those that each theorem states. -/
import Derived.Test.YthokkogdkpmdcaaPAllx0
import Derived.Test.YthokkogdkpmdcaaPAllx5
namespace Go.Proofs.Ythokkogdkpmdcaa.PAll
open Go.RowKit Go.Proofs.YthokkogdkpmdcaaW.PrintWords Go.Proofs.YthokkogdkpmdcaaW.PrintLast Go.Proofs.YthokkogdkpmdcaaW.PrintMore
attribute [local go_sem] max2_int min2_int max_two min_two max_three min_three max_four min_four   -- for this text's walks alone
set_option linter.unusedVariables false
set_option linter.unusedSimpArgs false

theorem offertoryref09_Bin.keepB {W0 W w1 : World} {g : Nat} {o : Obj} (h : Aside0 (W0.heap[g]? = some o)) (hb : Below W.heap.size W w1) (hs : W0.heap[g]? = some o → W.heap[g]? = some o := by intro h_; (with_reducible repeat (first | refine blk_drewN ?_ _ | refine blk_drew ?_ | refine blk_alloc ?_ _)); exact h_) : Aside0 (w1.heap[g]? = some o) := ⟨(hb.block g (blk_lt (hs h.out))).trans (hs h.out)⟩
theorem offertoryref09_Bin.neL {W0 W : World} {g gb : Nat} {o : Obj} (h : Aside0 (W0.heap[g]? = some o)) (hg : gb = W.heap.size) (hs : W0.heap[g]? = some o → W.heap[g]? = some o := by intro h_; (with_reducible repeat (first | refine blk_drewN ?_ _ | refine blk_drew ?_ | refine blk_alloc ?_ _)); exact h_) : Aside0 (g ≠ gb) := ⟨by rw [hg]; exact Nat.ne_of_lt (blk_lt (hs h.out))⟩
theorem offertoryref09_Bin.neG {W0 W : World} {g gb : Nat} {o : Obj} (h : Aside0 (W0.heap[g]? = some o)) (hg : gb = W.heap.size) (hs : W0.heap[g]? = some o → W.heap[g]? = some o := by intro h_; (with_reducible repeat (first | refine blk_drewN ?_ _ | refine blk_drew ?_ | refine blk_alloc ?_ _)); exact h_) : Aside0 (gb ≠ g) := ⟨by rw [hg]; exact Nat.ne_of_gt (blk_lt (hs h.out))⟩
/-! ### offertoryref09_Bin: function 9 -/
def offertoryref09_Bin.l0 : Nat → Int → Int → Int → Int → Int → List Int → Option (Int)
  | 0, _, _, _, _, _, _ => none
  | k + 1, x1, x5, x147000, x147001, x147002, x147003 => if x5 < (x147003.length : Int) then (if 0 ≤ x5 then ((offertoryref09_Clamp.f x147000 x147001 x147002 x147003 x1).bind fun t148 => (if (rd x147003 x5) ≤ t148 then (offertoryref09_Bin.l0 k x1 (wrap64 (x5 + 1)) x147000 x147001 x147002 x147003) else (some x5))) else (none)) else (some x5)
def offertoryref09_Bin.f (k : Nat) (a0_0 : Int) (a0_1 : Int) (a0_2 : Int) (l0_3 : List Int) (a1 : Int) : Option (Int) := offertoryref09_Bin.l0 k a1 0 a0_0 a0_1 a0_2 l0_3
theorem offertoryref09_Bin.mono_l : ∀ k, (∀ y0 y1 y2 y3 y4 y5, LeO (offertoryref09_Bin.l0 k y0 y1 y2 y3 y4 y5) (offertoryref09_Bin.l0 (k + 1) y0 y1 y2 y3 y4 y5))
  | 0 => fun _ _ _ _ _ _ r h => by simp [offertoryref09_Bin.l0] at h
  | k + 1 => by
    have ih0 := offertoryref09_Bin.mono_l k
    · intro y0 y1 y2 y3 y4 y5
      unfold offertoryref09_Bin.l0
      repeat' first
      | (with_reducible exact ih0 _ _ _ _ _ _)
      | (with_reducible exact LeO.refl _)
      | (with_reducible exact LeO.none _)
      | (with_reducible refine LeO.ite ?_ ?_)
      | (with_reducible refine LeO.bind ?_ (fun _ => ?_))
      | exact ih0 _ _ _ _ _ _
      | exact LeO.none _
      | refine LeO.ite ?_ ?_
      | refine LeO.bind ?_ (fun _ => ?_)
theorem offertoryref09_Bin.mono : ∀ a0 a1 a2 a3 a4 k, LeO (offertoryref09_Bin.f k a0 a1 a2 a3 a4) (offertoryref09_Bin.f (k + 1) a0 a1 a2 a3 a4) := by
  intro a0 a1 a2 a3 a4 k
  have ih0 := offertoryref09_Bin.mono_l k
  unfold offertoryref09_Bin.f
  repeat' first
      | (with_reducible exact ih0 _ _ _ _ _ _)
      | (with_reducible exact LeO.refl _)
      | (with_reducible exact LeO.none _)
      | (with_reducible refine LeO.ite ?_ ?_)
      | (with_reducible refine LeO.bind ?_ (fun _ => ?_))
      | exact ih0 _ _ _ _ _ _
      | exact LeO.none _
      | refine LeO.ite ?_ ?_
      | refine LeO.bind ?_ (fun _ => ?_)
def offertoryref09_Bin.T2 : Bool × List (List Nat × List Nat) := (true, [([], []), ([], []), ([1], [1]), ([2], [2]), ([0, 3], [0, 3]), ([4], [4]), ([5], [5]), ([6, 5], [5, 6]), ([5], [5]), ([7, 8, 5], [5, 7, 8]), ([9, 5], [5, 9]), ([5], [5]), ([5], [5]), ([11, 12, 5, 5], [5, 11, 12]), ([10, 13, 5], [5, 10, 13]), ([5, 14], [5, 14])])
def offertoryref09_Bin.B2 : List Nat := [0, 0, 2, 6, 15, 31, 63, 127, 63, 511, 1023, 63, 63, 6207, 16383, 32767]
theorem offertoryref09_Bin.tab2 : rtab .any (opsOf Try.f9 2) = offertoryref09_Bin.T2 := by kernel_rfl
theorem offertoryref09_Bin.bits2 : waitsOk offertoryref09_Bin.T2.2 offertoryref09_Bin.B2 = true := by kernel_rfl
set_option maxHeartbeats 8000000 in
set_option maxRecDepth 100000 in
theorem offertoryref09_Bin.calls (k : Nat) (a0_0 : Int) (a0_1 : Int) (a0_2 : Int) (A0_3 : Option Addr) (c0_3 : Nat) (l0_3 : List Int) (a1 : Int) (r : Int) (w : World) (hr0_3 : Kd.C (Kd.int .i64) w A0_3 l0_3.length l0_3) (hc0_3 : l0_3.length ≤ c0_3) (h : offertoryref09_Bin.f k a0_0 a0_1 a0_2 l0_3 a1 = some r) :
    Calls Try.prog 9 #[.agg #[.int .i64 a0_0, .int .i64 a0_1, .int .i64 a0_2, .slice A0_3 l0_3.length c0_3], .int .i64 a1] w fun e w' => e = .returned (.int .i64 r) ∧ Below w.heap.size w w' := by
  have hu24 := Try.underlying24
  have HR0_3 := Aside0.mk hr0_3
  have HC0_3 := Aside0.mk hc0_3
  clear hr0_3 hc0_3
  have HB := Aside0.mk (Below.refl w.heap.size w)
  have H : (offertoryref09_Bin.l0 k a1 0 a0_0 a0_1 a0_2 l0_3) = some r := h
  clear h
  have H' := Aside0.mk H
  clear H
  go_enter Try.func9, Try.ntmps9
  go_wp2_with (first | ((with_reducible refine gate_dst (N := 2) rfl ?_); refine box_event ?hg (N := 2) ?hd (cs := #[.int .i64 a0_0, .int .i64 a0_1, .int .i64 a0_2, .slice A0_3 l0_3.length c0_3]) (t := 24) ?hr ?_; (case hd => rfl); (case hg => rfl); (case hr => first | (go_simp; done) | (go_simp; rfl)); intro gb146 hg w3 hbox hb; have n0_ := Aside0.mk (below_step (by repeat (first | (with_reducible first | exact HB.out | apply below_alloc | apply pw_below_drewN | apply below_drew1) | exact HB.out)) hb); have n1_ := Aside0.mk (hbox); have n2_ := Aside0.mk ((by rw [hg]; exact (below_size (by repeat (first | (with_reducible first | exact HB.out | apply below_alloc | apply pw_below_drewN | apply below_drew1) | exact HB.out))) : w.heap.size ≤ gb146)); have n3_ := Aside0.mk ((by rw [hg]; exact (below_size (by repeat (first | (with_reducible first | exact HB.out | apply below_alloc | apply pw_below_drewN | apply below_drew1) | exact HB.out))) : w.heap.size ≤ gb146)); clear HB; have HB := n0_; have BK146 := n1_; have GW146 := n2_; have GE146 := n3_; clear n0_ n1_ n2_ n3_; clear hb hbox hg))
  go_loopg [5] k (fun kq v5 w' => ∃ (x5_1 : Int), v5 = .int .i64 x5_1 ∧ Aside0 (offertoryref09_Bin.l0 kq a1 x5_1 a0_0 a0_1 a0_2 l0_3 = some r) ∧ Aside0 (kq ≤ k) ∧ Aside0 (w'.heap[gb146]? = some (.cells #[.int .i64 a0_0, .int .i64 a0_1, .int .i64 a0_2, (.slice A0_3 l0_3.length c0_3)] 24 (0, 0))) ∧ Aside0 (Below w.heap.size w w'))
  case atStart => exact ⟨(0), (by first | rfl | (simp; done) | (simp [*]; done)), H', ⟨Nat.le_refl _⟩, ⟨by (with_reducible repeat (first | refine blk_drewN ?_ _ | refine blk_drew ?_ | refine blk_alloc ?_ _)); exact BK146.out⟩, ⟨by repeat (first | (with_reducible first | exact HB.out | apply below_alloc | apply pw_below_drewN | apply below_drew1 | refine below_set ?_ GE146.out) | exact HB.out)⟩⟩
  case round =>
    clear H'
    try clear p2
    obtain ⟨x5_1, rfl, HA, HK1, BK146, HB⟩ := hrel
    cases gk with
    | zero => exact absurd HA.out (by simp [offertoryref09_Bin.l0])
    | succ k1 =>
      have H := HA.out
      clear HA
      simp only [offertoryref09_Bin.l0] at H
      by_cases c4 : x5_1 < (l0_3.length : Int)
      · rw [if_pos c4] at H
        have c4b0 : decide (x5_1 < (l0_3.length : Int)) = true := decide_eq_true c4
        clear c4
        by_cases c5 : 0 ≤ x5_1
        · rw [if_pos c5] at H
          have c5b0 : decide (0 ≤ x5_1) = true := decide_eq_true c5
          clear c5
          replace H := Option.bind_eq_some_iff.mp H
          obtain ⟨t148, A60, H⟩ := H
          replace H : (if (rd l0_3 x5_1) ≤ t148 then (offertoryref09_Bin.l0 k1 a1 (wrap64 (x5_1 + 1)) a0_0 a0_1 a0_2 l0_3) else (some x5_1)) = some r := H
          have A6 := Aside0.mk A60
          clear A60
          by_cases c7 : (rd l0_3 x5_1) ≤ t148
          · rw [if_pos c7] at H
            have c7b0 : decide ((rd l0_3 x5_1) ≤ t148) = true := decide_eq_true c7
            clear c7
            have H' := Aside0.mk H
            clear H
            try go_wp2
            have n0_ := Aside0.mk (blk_drew BK146.out)
            have n1_ := Aside0.mk (below_drew1 HB.out)
            clear BK146
            clear HB
            have BK146 := n0_
            have HB := n1_
            clear n0_ n1_
            have p147 : 0 ≤ (x5_1 : Int) := of_decide_eq_true (by first | (with_reducible assumption) | assumption)
            have q147 : x5_1 < (l0_3.length : Int) := of_decide_eq_true (by first | (with_reducible assumption) | assumption)
            obtain ⟨ad147, e147, hx147_0⟩ := Kd.at_int HR0_3.out x5_1 p147 q147
            have hw147_0 := hx147_0
            cases e147
            replace hx147_0 := (HB.out.cell (World.block_lt_of_cell? w _ hx147_0)).trans hx147_0
            replace p147 := eq_true p147
            replace q147 := eq_true q147
            refine start_ (n := 16) (S := fun w' => w'.cell? ⟨gb146, 0, none⟩ = some (.int .i64 a0_0) ∧ w'.cell? ⟨gb146, 1, none⟩ = some (.int .i64 a0_1) ∧ w'.cell? ⟨gb146, 2, none⟩ = some (.int .i64 a0_2) ∧ w'.cell? ⟨gb146, 3, none⟩ = some (.slice (some ad147) l0_3.length c0_3) ∧ w'.cell? (ad147.add (x5_1).toNat) = some (.int .i64 (rd l0_3 x5_1))) (ds := []) #[false, false, false, false, false, false, false, false, false, false, false, false, false, false, false, false] (by kernel_rfl) rfl rfl ⟨(blk_cell BK146.out 0).trans rfl, (blk_cell BK146.out 1).trans rfl, (blk_cell BK146.out 2).trans rfl, (blk_cell BK146.out 3).trans rfl, ((HB.out.cell (World.block_lt_of_cell? w _ hw147_0)).trans hw147_0)⟩ (fun hHeld => ?_); refine with_tabW offertoryref09_Bin.tab2 offertoryref09_Bin.bits2 (fun HT_ HW_ => ?_)
            generalize wr.drew = w8 at BK146 HB hx147_0 hHeld ⊢
            refine pure_ (i := 0) (N := some 6) (v := ?_) (a' := ?_) #[true, false, false, false, false, false, false, false, false, false, false, false, false, false, false, false] rfl rfl (any_of HT_.out (by kernel_rfl)) (fun _ _ _ h => h) (Or.inl ⟨by rfl, ?_⟩) ?_ ?_
            rotate_left
            · intro w'
              (try simp only [add_plain] at s0 s1 s2 s3 s4)
              go_simp
              with_reducible rfl
            rotate_left
            · simp only [Act.put, List.setIfInBounds_toArray, List.set_cons_zero, List.set_cons_succ, i64_w, i32_w]
              rfl
            refine pure_ (i := 1) (N := some 7) (v := ?_) (a' := ?_) #[true, true, false, false, false, false, false, false, false, false, false, false, false, false, false, false] rfl rfl (any_of HT_.out (by kernel_rfl)) (fun _ _ _ h => h) (Or.inl ⟨by rfl, ?_⟩) ?_ ?_
            rotate_left
            · intro w'
              (try simp only [add_plain] at s0 s1 s2 s3 s4)
              go_simp
              with_reducible rfl
            rotate_left
            · simp only [Act.put, List.setIfInBounds_toArray, List.set_cons_zero, List.set_cons_succ, i64_w, i32_w]
              rfl
            refine take_ (i := 2) (N := some 8) (v := ?_) (a' := ?_) #[true, true, true, false, false, false, false, false, false, false, false, false, false, false, false, false] rfl rfl (take_ofW HT_.out HW_.out (by kernel_rfl)) (fun _ _ _ h => h) (Or.inl ⟨by rfl, ?_⟩) hHeld ?_ ?_
            rotate_left
            · rintro w' ⟨s0, s1, s2, s3, s4⟩
              (try simp only [add_plain] at s0 s1 s2 s3 s4)
              go_simp
              with_reducible rfl
            rotate_left
            · simp only [Act.put, List.setIfInBounds_toArray, List.set_cons_zero, List.set_cons_succ, i64_w, i32_w]
              rfl
            refine pure_ (i := 3) (N := some 9) (v := ?_) (a' := ?_) #[true, true, true, true, false, false, false, false, false, false, false, false, false, false, false, false] rfl rfl (any_of HT_.out (by kernel_rfl)) (fun _ _ _ h => h) (Or.inl ⟨by rfl, ?_⟩) ?_ ?_
            rotate_left
            · intro w'
              (try simp only [add_plain] at s0 s1 s2 s3 s4)
              go_simp
              with_reducible rfl
            rotate_left
            · simp only [Act.put, List.setIfInBounds_toArray, List.set_cons_zero, List.set_cons_succ, i64_w, i32_w]
              rfl
            refine pure_ (i := 4) (N := some 10) (v := ?_) (a' := ?_) #[true, true, true, true, true, false, false, false, false, false, false, false, false, false, false, false] rfl rfl (any_of HT_.out (by kernel_rfl)) (fun _ _ _ h => h) (Or.inl ⟨by rfl, ?_⟩) ?_ ?_
            rotate_left
            · intro w'
              (try simp only [add_plain] at s0 s1 s2 s3 s4)
              go_simp
              with_reducible rfl
            rotate_left
            · simp only [Act.put, List.setIfInBounds_toArray, List.set_cons_zero, List.set_cons_succ, i64_w, i32_w]
              rfl
            refine pure_ (i := 5) (N := some 11) (v := ?_) (a' := ?_) #[true, true, true, true, true, true, false, false, false, false, false, false, false, false, false, false] rfl rfl (any_of HT_.out (by kernel_rfl)) (fun _ _ _ h => h) (Or.inl ⟨by rfl, ?_⟩) ?_ ?_
            rotate_left
            · intro w'
              (try simp only [add_plain] at s0 s1 s2 s3 s4)
              go_simp
              with_reducible rfl
            rotate_left
            · simp only [Act.put, List.setIfInBounds_toArray, List.set_cons_zero, List.set_cons_succ, i64_w, i32_w]
              rfl
            refine pure_ (i := 6) (N := some 12) (v := ?_) (a' := ?_) #[true, true, true, true, true, true, true, false, false, false, false, false, false, false, false, false] rfl rfl (any_of HT_.out (by kernel_rfl)) (fun _ _ _ h => h) (Or.inl ⟨by rfl, ?_⟩) ?_ ?_
            rotate_left
            · intro w'
              (try simp only [add_plain] at s0 s1 s2 s3 s4)
              go_simp
              with_reducible rfl
            rotate_left
            · simp only [Act.put, List.setIfInBounds_toArray, List.set_cons_zero, List.set_cons_succ, i64_w, i32_w]
              rfl
            refine pure_ (i := 8) (N := some 14) (v := ?_) (a' := ?_) #[true, true, true, true, true, true, true, false, true, false, false, false, false, false, false, false] rfl rfl (any_of HT_.out (by kernel_rfl)) (fun _ _ _ h => h) (Or.inl ⟨by rfl, ?_⟩) ?_ ?_
            rotate_left
            · intro w'
              (try simp only [add_plain] at s0 s1 s2 s3 s4)
              go_simp
              with_reducible rfl
            rotate_left
            · simp only [Act.put, List.setIfInBounds_toArray, List.set_cons_zero, List.set_cons_succ, i64_w, i32_w]
              rfl
            refine pure_ (i := 12) (N := some 18) (v := ?_) (a' := ?_) #[true, true, true, true, true, true, true, false, true, false, false, false, true, false, false, false] rfl rfl (any_of HT_.out (by kernel_rfl)) (fun _ _ _ h => h) (Or.inl ⟨by rfl, ?_⟩) ?_ ?_
            rotate_left
            · intro w'
              (try simp only [add_plain] at s0 s1 s2 s3 s4)
              go_simp
              with_reducible rfl
            rotate_left
            · simp only [Act.put, List.setIfInBounds_toArray, List.set_cons_zero, List.set_cons_succ, i64_w, i32_w]
              rfl
            refine take_ (i := 7) (N := some 13) (v := ?_) (a' := ?_) #[true, true, true, true, true, true, true, true, true, false, false, false, true, false, false, false] rfl rfl (take_ofW HT_.out HW_.out (by kernel_rfl)) (fun _ _ _ h => h) (Or.inl ⟨by rfl, ?_⟩) hHeld ?_ ?_
            rotate_left
            · rintro w' ⟨s0, s1, s2, s3, s4⟩
              (try simp only [add_plain] at s0 s1 s2 s3 s4)
              go_simp
              with_reducible rfl
            rotate_left
            · simp only [Act.put, List.setIfInBounds_toArray, List.set_cons_zero, List.set_cons_succ, i64_w, i32_w]
              rfl
            refine pure_ (i := 9) (N := some 15) (v := ?_) (a' := ?_) #[true, true, true, true, true, true, true, true, true, true, false, false, true, false, false, false] rfl rfl (any_of HT_.out (by kernel_rfl)) (fun _ _ _ h => h) (Or.inl ⟨by rfl, ?_⟩) ?_ ?_
            rotate_left
            · intro w'
              (try simp only [add_plain] at s0 s1 s2 s3 s4)
              go_simp
              with_reducible rfl
            rotate_left
            · simp only [Act.put, List.setIfInBounds_toArray, List.set_cons_zero, List.set_cons_succ, i64_w, i32_w]
              rfl
            refine take_ (i := 10) (N := some 16) (v := ?_) (a' := ?_) #[true, true, true, true, true, true, true, true, true, true, true, false, true, false, false, false] rfl rfl (take_ofW HT_.out HW_.out (by kernel_rfl)) (fun _ _ _ h => h) (Or.inl ⟨by rfl, ?_⟩) hHeld ?_ ?_
            rotate_left
            · rintro w' ⟨s0, s1, s2, s3, s4⟩
              (try simp only [add_plain] at s0 s1 s2 s3 s4)
              go_simp
              with_reducible rfl
            rotate_left
            · simp only [Act.put, List.setIfInBounds_toArray, List.set_cons_zero, List.set_cons_succ, i64_w, i32_w]
              rfl
            refine take_ (i := 11) (N := some 17) (v := ?_) (a' := ?_) #[true, true, true, true, true, true, true, true, true, true, true, true, true, false, false, false] rfl rfl (take_ofW HT_.out HW_.out (by kernel_rfl)) (fun _ _ _ h => h) (Or.inl ⟨by rfl, ?_⟩) hHeld ?_ ?_
            rotate_left
            · rintro w' ⟨s0, s1, s2, s3, s4⟩
              (try simp only [add_plain] at s0 s1 s2 s3 s4)
              go_simp
              with_reducible rfl
            rotate_left
            · simp only [Act.put, List.setIfInBounds_toArray, List.set_cons_zero, List.set_cons_succ, i64_w, i32_w]
              rfl
            refine one_ (i := 13) (N := some 19) #[true, true, true, true, true, true, true, true, true, true, true, true, true, true, false, false] rfl rfl (one_of HT_.out (by kernel_rfl)) (by decide) (fun K hK => ?_)
            refine goes_ Try.func19 (by kernel_rfl) rfl #[.agg #[.int .i64 a0_0, .int .i64 a0_1, .int .i64 a0_2, .slice (some ad147) l0_3.length c0_3], .int .i64 a1] (by rfl) rfl rfl (by (try simp only [List.map_toArray, List.map_cons, List.map_nil]); first | done | rfl | (simp only [List.length_drop, List.length_take]; rfl)) ?_
            with_reducible refine (offertoryref09_Clamp.calls a0_0 a0_1 a0_2 _ _ l0_3 a1 t148 _ ?side1 ?side2 A6.out).mono ?_
            (case side1 => repeat (first | exact (Kd.C_below HR0_3.out HB.out) | (with_reducible refine Kd.C_alloc ?_ _) | (with_reducible refine Kd.C_drewN ?_ _) | (with_reducible refine Kd.C_drew ?_)))
            (case side2 => exact HC0_3.out)
            rintro e w9 ⟨rfl, hb⟩
            refine ⟨_, rfl, ?_⟩
            have n0_ := offertoryref09_Bin.keepB BK146 hb
            have n1_ := Aside0.mk (below_step (by repeat (first | (with_reducible first | exact HB.out | apply below_alloc | apply pw_below_drewN | apply below_drew1 | refine below_set ?_ GE146.out) | exact HB.out)) hb)
            clear BK146
            clear HB
            have BK146 := n0_
            have HB := n1_
            clear n0_ n1_
            (try clear hb)
            (try clear hb2)
            (try clear hk)
            (try clear hi)
            refine hK.out _ _ ⟨(blk_cell BK146.out 0).trans rfl, (blk_cell BK146.out 1).trans rfl, (blk_cell BK146.out 2).trans rfl, (blk_cell BK146.out 3).trans rfl, ((HB.out.cell (World.block_lt_of_cell? w _ hw147_0)).trans hw147_0)⟩ (fun hHeld => ?_)
            clear hK K
            refine norm_ (a' := ?_) ?_ ?_
            rotate_left
            · show Act.put _ (some 19) _ = _
              simp only [Act.put, List.setIfInBounds_toArray, List.set_cons_zero, List.set_cons_succ, i64_w, i32_w]
              rfl
            refine pure_ (i := 14) (N := some 20) (v := ?_) (a' := ?_) #[true, true, true, true, true, true, true, true, true, true, true, true, true, true, true, false] rfl rfl (any_of HT_.out (by kernel_rfl)) (fun _ _ _ h => h) (Or.inl ⟨by rfl, ?_⟩) ?_ ?_
            rotate_left
            · intro w'
              (try simp only [add_plain] at s0 s1 s2 s3 s4)
              go_simp
              with_reducible rfl
            rotate_left
            · simp only [Act.put, List.setIfInBounds_toArray, List.set_cons_zero, List.set_cons_succ, i64_w, i32_w]
              rfl
            refine pure_ (i := 15) (N := some 21) (v := ?_) (a' := ?_) #[true, true, true, true, true, true, true, true, true, true, true, true, true, true, true, true] rfl rfl (any_of HT_.out (by kernel_rfl)) (fun _ _ _ h => h) (Or.inl ⟨by rfl, ?_⟩) ?_ ?_
            rotate_left
            · intro w'
              (try simp only [add_plain] at s0 s1 s2 s3 s4)
              go_simp
              with_reducible rfl
            rotate_left
            · simp only [Act.put, List.setIfInBounds_toArray, List.set_cons_zero, List.set_cons_succ, i64_w, i32_w]
              rfl
            refine done_ (done_of HT_.out (by kernel_rfl)) ?_
            try go_wp2
            go_roundg k1
            case measure => have := HK1.out; omega
            case rel => exact ⟨(wrap64 (x5_1 + 1)), (by first | rfl | (simp; done) | (simp [*]; done)), H', ⟨by have := HK1.out; omega⟩, ⟨by (with_reducible repeat (first | refine blk_drewN ?_ _ | refine blk_drew ?_ | refine blk_alloc ?_ _)); exact BK146.out⟩, ⟨by repeat (first | (with_reducible first | exact HB.out | apply below_alloc | apply pw_below_drewN | apply below_drew1 | refine below_set ?_ GE146.out) | exact HB.out)⟩⟩
          · rw [if_neg c7] at H
            have c7b0 : decide ((rd l0_3 x5_1) ≤ t148) = false := decide_eq_false c7
            clear c7
            obtain rfl := Option.some.inj H
            try go_wp2
            have n0_ := Aside0.mk (blk_drew BK146.out)
            have n1_ := Aside0.mk (below_drew1 HB.out)
            clear BK146
            clear HB
            have BK146 := n0_
            have HB := n1_
            clear n0_ n1_
            have p147 : 0 ≤ (x5_1 : Int) := of_decide_eq_true (by first | (with_reducible assumption) | assumption)
            have q147 : x5_1 < (l0_3.length : Int) := of_decide_eq_true (by first | (with_reducible assumption) | assumption)
            obtain ⟨ad147, e147, hx147_0⟩ := Kd.at_int HR0_3.out x5_1 p147 q147
            have hw147_0 := hx147_0
            cases e147
            replace hx147_0 := (HB.out.cell (World.block_lt_of_cell? w _ hx147_0)).trans hx147_0
            replace p147 := eq_true p147
            replace q147 := eq_true q147
            refine start_ (n := 16) (S := fun w' => w'.cell? ⟨gb146, 0, none⟩ = some (.int .i64 a0_0) ∧ w'.cell? ⟨gb146, 1, none⟩ = some (.int .i64 a0_1) ∧ w'.cell? ⟨gb146, 2, none⟩ = some (.int .i64 a0_2) ∧ w'.cell? ⟨gb146, 3, none⟩ = some (.slice (some ad147) l0_3.length c0_3) ∧ w'.cell? (ad147.add (x5_1).toNat) = some (.int .i64 (rd l0_3 x5_1))) (ds := []) #[false, false, false, false, false, false, false, false, false, false, false, false, false, false, false, false] (by kernel_rfl) rfl rfl ⟨(blk_cell BK146.out 0).trans rfl, (blk_cell BK146.out 1).trans rfl, (blk_cell BK146.out 2).trans rfl, (blk_cell BK146.out 3).trans rfl, ((HB.out.cell (World.block_lt_of_cell? w _ hw147_0)).trans hw147_0)⟩ (fun hHeld => ?_); refine with_tabW offertoryref09_Bin.tab2 offertoryref09_Bin.bits2 (fun HT_ HW_ => ?_)
            generalize wr.drew = w10 at BK146 HB hx147_0 hHeld ⊢
            refine pure_ (i := 0) (N := some 6) (v := ?_) (a' := ?_) #[true, false, false, false, false, false, false, false, false, false, false, false, false, false, false, false] rfl rfl (any_of HT_.out (by kernel_rfl)) (fun _ _ _ h => h) (Or.inl ⟨by rfl, ?_⟩) ?_ ?_
            rotate_left
            · intro w'
              (try simp only [add_plain] at s0 s1 s2 s3 s4)
              go_simp
              with_reducible rfl
            rotate_left
            · simp only [Act.put, List.setIfInBounds_toArray, List.set_cons_zero, List.set_cons_succ, i64_w, i32_w]
              rfl
            refine pure_ (i := 1) (N := some 7) (v := ?_) (a' := ?_) #[true, true, false, false, false, false, false, false, false, false, false, false, false, false, false, false] rfl rfl (any_of HT_.out (by kernel_rfl)) (fun _ _ _ h => h) (Or.inl ⟨by rfl, ?_⟩) ?_ ?_
            rotate_left
            · intro w'
              (try simp only [add_plain] at s0 s1 s2 s3 s4)
              go_simp
              with_reducible rfl
            rotate_left
            · simp only [Act.put, List.setIfInBounds_toArray, List.set_cons_zero, List.set_cons_succ, i64_w, i32_w]
              rfl
            refine take_ (i := 2) (N := some 8) (v := ?_) (a' := ?_) #[true, true, true, false, false, false, false, false, false, false, false, false, false, false, false, false] rfl rfl (take_ofW HT_.out HW_.out (by kernel_rfl)) (fun _ _ _ h => h) (Or.inl ⟨by rfl, ?_⟩) hHeld ?_ ?_
            rotate_left
            · rintro w' ⟨s0, s1, s2, s3, s4⟩
              (try simp only [add_plain] at s0 s1 s2 s3 s4)
              go_simp
              with_reducible rfl
            rotate_left
            · simp only [Act.put, List.setIfInBounds_toArray, List.set_cons_zero, List.set_cons_succ, i64_w, i32_w]
              rfl
            refine pure_ (i := 3) (N := some 9) (v := ?_) (a' := ?_) #[true, true, true, true, false, false, false, false, false, false, false, false, false, false, false, false] rfl rfl (any_of HT_.out (by kernel_rfl)) (fun _ _ _ h => h) (Or.inl ⟨by rfl, ?_⟩) ?_ ?_
            rotate_left
            · intro w'
              (try simp only [add_plain] at s0 s1 s2 s3 s4)
              go_simp
              with_reducible rfl
            rotate_left
            · simp only [Act.put, List.setIfInBounds_toArray, List.set_cons_zero, List.set_cons_succ, i64_w, i32_w]
              rfl
            refine pure_ (i := 4) (N := some 10) (v := ?_) (a' := ?_) #[true, true, true, true, true, false, false, false, false, false, false, false, false, false, false, false] rfl rfl (any_of HT_.out (by kernel_rfl)) (fun _ _ _ h => h) (Or.inl ⟨by rfl, ?_⟩) ?_ ?_
            rotate_left
            · intro w'
              (try simp only [add_plain] at s0 s1 s2 s3 s4)
              go_simp
              with_reducible rfl
            rotate_left
            · simp only [Act.put, List.setIfInBounds_toArray, List.set_cons_zero, List.set_cons_succ, i64_w, i32_w]
              rfl
            refine pure_ (i := 5) (N := some 11) (v := ?_) (a' := ?_) #[true, true, true, true, true, true, false, false, false, false, false, false, false, false, false, false] rfl rfl (any_of HT_.out (by kernel_rfl)) (fun _ _ _ h => h) (Or.inl ⟨by rfl, ?_⟩) ?_ ?_
            rotate_left
            · intro w'
              (try simp only [add_plain] at s0 s1 s2 s3 s4)
              go_simp
              with_reducible rfl
            rotate_left
            · simp only [Act.put, List.setIfInBounds_toArray, List.set_cons_zero, List.set_cons_succ, i64_w, i32_w]
              rfl
            refine pure_ (i := 6) (N := some 12) (v := ?_) (a' := ?_) #[true, true, true, true, true, true, true, false, false, false, false, false, false, false, false, false] rfl rfl (any_of HT_.out (by kernel_rfl)) (fun _ _ _ h => h) (Or.inl ⟨by rfl, ?_⟩) ?_ ?_
            rotate_left
            · intro w'
              (try simp only [add_plain] at s0 s1 s2 s3 s4)
              go_simp
              with_reducible rfl
            rotate_left
            · simp only [Act.put, List.setIfInBounds_toArray, List.set_cons_zero, List.set_cons_succ, i64_w, i32_w]
              rfl
            refine pure_ (i := 8) (N := some 14) (v := ?_) (a' := ?_) #[true, true, true, true, true, true, true, false, true, false, false, false, false, false, false, false] rfl rfl (any_of HT_.out (by kernel_rfl)) (fun _ _ _ h => h) (Or.inl ⟨by rfl, ?_⟩) ?_ ?_
            rotate_left
            · intro w'
              (try simp only [add_plain] at s0 s1 s2 s3 s4)
              go_simp
              with_reducible rfl
            rotate_left
            · simp only [Act.put, List.setIfInBounds_toArray, List.set_cons_zero, List.set_cons_succ, i64_w, i32_w]
              rfl
            refine pure_ (i := 12) (N := some 18) (v := ?_) (a' := ?_) #[true, true, true, true, true, true, true, false, true, false, false, false, true, false, false, false] rfl rfl (any_of HT_.out (by kernel_rfl)) (fun _ _ _ h => h) (Or.inl ⟨by rfl, ?_⟩) ?_ ?_
            rotate_left
            · intro w'
              (try simp only [add_plain] at s0 s1 s2 s3 s4)
              go_simp
              with_reducible rfl
            rotate_left
            · simp only [Act.put, List.setIfInBounds_toArray, List.set_cons_zero, List.set_cons_succ, i64_w, i32_w]
              rfl
            refine take_ (i := 7) (N := some 13) (v := ?_) (a' := ?_) #[true, true, true, true, true, true, true, true, true, false, false, false, true, false, false, false] rfl rfl (take_ofW HT_.out HW_.out (by kernel_rfl)) (fun _ _ _ h => h) (Or.inl ⟨by rfl, ?_⟩) hHeld ?_ ?_
            rotate_left
            · rintro w' ⟨s0, s1, s2, s3, s4⟩
              (try simp only [add_plain] at s0 s1 s2 s3 s4)
              go_simp
              with_reducible rfl
            rotate_left
            · simp only [Act.put, List.setIfInBounds_toArray, List.set_cons_zero, List.set_cons_succ, i64_w, i32_w]
              rfl
            refine pure_ (i := 9) (N := some 15) (v := ?_) (a' := ?_) #[true, true, true, true, true, true, true, true, true, true, false, false, true, false, false, false] rfl rfl (any_of HT_.out (by kernel_rfl)) (fun _ _ _ h => h) (Or.inl ⟨by rfl, ?_⟩) ?_ ?_
            rotate_left
            · intro w'
              (try simp only [add_plain] at s0 s1 s2 s3 s4)
              go_simp
              with_reducible rfl
            rotate_left
            · simp only [Act.put, List.setIfInBounds_toArray, List.set_cons_zero, List.set_cons_succ, i64_w, i32_w]
              rfl
            refine take_ (i := 10) (N := some 16) (v := ?_) (a' := ?_) #[true, true, true, true, true, true, true, true, true, true, true, false, true, false, false, false] rfl rfl (take_ofW HT_.out HW_.out (by kernel_rfl)) (fun _ _ _ h => h) (Or.inl ⟨by rfl, ?_⟩) hHeld ?_ ?_
            rotate_left
            · rintro w' ⟨s0, s1, s2, s3, s4⟩
              (try simp only [add_plain] at s0 s1 s2 s3 s4)
              go_simp
              with_reducible rfl
            rotate_left
            · simp only [Act.put, List.setIfInBounds_toArray, List.set_cons_zero, List.set_cons_succ, i64_w, i32_w]
              rfl
            refine take_ (i := 11) (N := some 17) (v := ?_) (a' := ?_) #[true, true, true, true, true, true, true, true, true, true, true, true, true, false, false, false] rfl rfl (take_ofW HT_.out HW_.out (by kernel_rfl)) (fun _ _ _ h => h) (Or.inl ⟨by rfl, ?_⟩) hHeld ?_ ?_
            rotate_left
            · rintro w' ⟨s0, s1, s2, s3, s4⟩
              (try simp only [add_plain] at s0 s1 s2 s3 s4)
              go_simp
              with_reducible rfl
            rotate_left
            · simp only [Act.put, List.setIfInBounds_toArray, List.set_cons_zero, List.set_cons_succ, i64_w, i32_w]
              rfl
            refine one_ (i := 13) (N := some 19) #[true, true, true, true, true, true, true, true, true, true, true, true, true, true, false, false] rfl rfl (one_of HT_.out (by kernel_rfl)) (by decide) (fun K hK => ?_)
            refine goes_ Try.func19 (by kernel_rfl) rfl #[.agg #[.int .i64 a0_0, .int .i64 a0_1, .int .i64 a0_2, .slice (some ad147) l0_3.length c0_3], .int .i64 a1] (by rfl) rfl rfl (by (try simp only [List.map_toArray, List.map_cons, List.map_nil]); first | done | rfl | (simp only [List.length_drop, List.length_take]; rfl)) ?_
            with_reducible refine (offertoryref09_Clamp.calls a0_0 a0_1 a0_2 _ _ l0_3 a1 t148 _ ?side1 ?side2 A6.out).mono ?_
            (case side1 => repeat (first | exact (Kd.C_below HR0_3.out HB.out) | (with_reducible refine Kd.C_alloc ?_ _) | (with_reducible refine Kd.C_drewN ?_ _) | (with_reducible refine Kd.C_drew ?_)))
            (case side2 => exact HC0_3.out)
            rintro e w11 ⟨rfl, hb⟩
            refine ⟨_, rfl, ?_⟩
            have n0_ := offertoryref09_Bin.keepB BK146 hb
            have n1_ := Aside0.mk (below_step (by repeat (first | (with_reducible first | exact HB.out | apply below_alloc | apply pw_below_drewN | apply below_drew1 | refine below_set ?_ GE146.out) | exact HB.out)) hb)
            clear BK146
            clear HB
            have BK146 := n0_
            have HB := n1_
            clear n0_ n1_
            (try clear hb)
            (try clear hb2)
            (try clear hk)
            (try clear hi)
            refine hK.out _ _ ⟨(blk_cell BK146.out 0).trans rfl, (blk_cell BK146.out 1).trans rfl, (blk_cell BK146.out 2).trans rfl, (blk_cell BK146.out 3).trans rfl, ((HB.out.cell (World.block_lt_of_cell? w _ hw147_0)).trans hw147_0)⟩ (fun hHeld => ?_)
            clear hK K
            refine norm_ (a' := ?_) ?_ ?_
            rotate_left
            · show Act.put _ (some 19) _ = _
              simp only [Act.put, List.setIfInBounds_toArray, List.set_cons_zero, List.set_cons_succ, i64_w, i32_w]
              rfl
            refine pure_ (i := 14) (N := some 20) (v := ?_) (a' := ?_) #[true, true, true, true, true, true, true, true, true, true, true, true, true, true, true, false] rfl rfl (any_of HT_.out (by kernel_rfl)) (fun _ _ _ h => h) (Or.inl ⟨by rfl, ?_⟩) ?_ ?_
            rotate_left
            · intro w'
              (try simp only [add_plain] at s0 s1 s2 s3 s4)
              go_simp
              with_reducible rfl
            rotate_left
            · simp only [Act.put, List.setIfInBounds_toArray, List.set_cons_zero, List.set_cons_succ, i64_w, i32_w]
              rfl
            refine pure_ (i := 15) (N := some 21) (v := ?_) (a' := ?_) #[true, true, true, true, true, true, true, true, true, true, true, true, true, true, true, true] rfl rfl (any_of HT_.out (by kernel_rfl)) (fun _ _ _ h => h) (Or.inl ⟨by rfl, ?_⟩) ?_ ?_
            rotate_left
            · intro w'
              (try simp only [add_plain] at s0 s1 s2 s3 s4)
              go_simp
              with_reducible rfl
            rotate_left
            · simp only [Act.put, List.setIfInBounds_toArray, List.set_cons_zero, List.set_cons_succ, i64_w, i32_w]
              rfl
            refine done_ (done_of HT_.out (by kernel_rfl)) ?_
            try go_wp2
            go_ret
            exact ⟨by first | rfl | (simp [errW_none, errW_some] <;> rfl) | (simp [*, errW_none, errW_some] <;> rfl), by repeat (first | (with_reducible first | exact HB.out | apply below_alloc | apply pw_below_drewN | apply below_drew1 | refine below_set ?_ GE146.out) | exact HB.out)⟩
        · rw [if_neg c5] at H
          exact absurd H (by simp)
      · rw [if_neg c4] at H
        have c4b0 : decide (x5_1 < (l0_3.length : Int)) = false := decide_eq_false c4
        clear c4
        obtain rfl := Option.some.inj H
        try go_wp2
        have n0_ := Aside0.mk (blk_drew BK146.out)
        have n1_ := Aside0.mk (below_drew1 HB.out)
        clear BK146
        clear HB
        have BK146 := n0_
        have HB := n1_
        clear n0_ n1_
        refine start_ (n := 16) (S := fun w' => w'.cell? ⟨gb146, 0, none⟩ = some (.int .i64 a0_0) ∧ w'.cell? ⟨gb146, 1, none⟩ = some (.int .i64 a0_1) ∧ w'.cell? ⟨gb146, 2, none⟩ = some (.int .i64 a0_2) ∧ w'.cell? ⟨gb146, 3, none⟩ = some (.slice A0_3 l0_3.length c0_3)) (ds := []) #[false, false, false, false, false, false, false, false, false, false, false, false, false, false, false, false] (by kernel_rfl) rfl rfl ⟨(blk_cell BK146.out 0).trans rfl, (blk_cell BK146.out 1).trans rfl, (blk_cell BK146.out 2).trans rfl, (blk_cell BK146.out 3).trans rfl⟩ (fun hHeld => ?_); refine with_tabW offertoryref09_Bin.tab2 offertoryref09_Bin.bits2 (fun HT_ HW_ => ?_)
        generalize wr.drew = w12 at BK146 HB hHeld ⊢
        refine pure_ (i := 0) (N := some 6) (v := ?_) (a' := ?_) #[true, false, false, false, false, false, false, false, false, false, false, false, false, false, false, false] rfl rfl (any_of HT_.out (by kernel_rfl)) (fun _ _ _ h => h) (Or.inl ⟨by rfl, ?_⟩) ?_ ?_
        rotate_left
        · intro w'
          (try simp only [add_plain] at s0 s1 s2 s3)
          go_simp
          with_reducible rfl
        rotate_left
        · simp only [Act.put, List.setIfInBounds_toArray, List.set_cons_zero, List.set_cons_succ, i64_w, i32_w]
          rfl
        refine pure_ (i := 1) (N := some 7) (v := ?_) (a' := ?_) #[true, true, false, false, false, false, false, false, false, false, false, false, false, false, false, false] rfl rfl (any_of HT_.out (by kernel_rfl)) (fun _ _ _ h => h) (Or.inl ⟨by rfl, ?_⟩) ?_ ?_
        rotate_left
        · intro w'
          (try simp only [add_plain] at s0 s1 s2 s3)
          go_simp
          with_reducible rfl
        rotate_left
        · simp only [Act.put, List.setIfInBounds_toArray, List.set_cons_zero, List.set_cons_succ, i64_w, i32_w]
          rfl
        refine take_ (i := 2) (N := some 8) (v := ?_) (a' := ?_) #[true, true, true, false, false, false, false, false, false, false, false, false, false, false, false, false] rfl rfl (take_ofW HT_.out HW_.out (by kernel_rfl)) (fun _ _ _ h => h) (Or.inl ⟨by rfl, ?_⟩) hHeld ?_ ?_
        rotate_left
        · rintro w' ⟨s0, s1, s2, s3⟩
          (try simp only [add_plain] at s0 s1 s2 s3)
          go_simp
          with_reducible rfl
        rotate_left
        · simp only [Act.put, List.setIfInBounds_toArray, List.set_cons_zero, List.set_cons_succ, i64_w, i32_w]
          rfl
        refine pure_ (i := 3) (N := some 9) (v := ?_) (a' := ?_) #[true, true, true, true, false, false, false, false, false, false, false, false, false, false, false, false] rfl rfl (any_of HT_.out (by kernel_rfl)) (fun _ _ _ h => h) (Or.inl ⟨by rfl, ?_⟩) ?_ ?_
        rotate_left
        · intro w'
          (try simp only [add_plain] at s0 s1 s2 s3)
          go_simp
          with_reducible rfl
        rotate_left
        · simp only [Act.put, List.setIfInBounds_toArray, List.set_cons_zero, List.set_cons_succ, i64_w, i32_w]
          rfl
        refine pure_ (i := 4) (N := some 10) (v := ?_) (a' := ?_) #[true, true, true, true, true, false, false, false, false, false, false, false, false, false, false, false] rfl rfl (any_of HT_.out (by kernel_rfl)) (fun _ _ _ h => h) (Or.inl ⟨by rfl, ?_⟩) ?_ ?_
        rotate_left
        · intro w'
          (try simp only [add_plain] at s0 s1 s2 s3)
          go_simp
          with_reducible rfl
        rotate_left
        · simp only [Act.put, List.setIfInBounds_toArray, List.set_cons_zero, List.set_cons_succ, i64_w, i32_w]
          rfl
        refine pure_ (i := 5) (N := some 11) (v := ?_) (a' := ?_) #[true, true, true, true, true, true, false, false, false, false, false, false, false, false, false, false] rfl rfl (any_of HT_.out (by kernel_rfl)) (fun _ _ _ h => h) (Or.inl ⟨by rfl, ?_⟩) ?_ ?_
        rotate_left
        · intro w'
          (try simp only [add_plain] at s0 s1 s2 s3)
          go_simp
          with_reducible rfl
        rotate_left
        · simp only [Act.put, List.setIfInBounds_toArray, List.set_cons_zero, List.set_cons_succ, i64_w, i32_w]
          rfl
        refine pure_ (i := 6) (N := some 12) (v := undef) (a' := ?_) #[true, true, true, true, true, true, true, false, false, false, false, false, false, false, false, false] rfl rfl (any_of HT_.out (by kernel_rfl)) (fun _ _ _ h => h) (Or.inr ⟨by rfl, rfl⟩) ?_ ?_
        rotate_left
        · simp only [Act.put, List.setIfInBounds_toArray, List.set_cons_zero, List.set_cons_succ, i64_w, i32_w]
          rfl
        refine pure_ (i := 7) (N := some 13) (v := undef) (a' := ?_) #[true, true, true, true, true, true, true, true, false, false, false, false, false, false, false, false] rfl rfl (any_of HT_.out (by kernel_rfl)) (fun _ _ _ h => h) (Or.inr ⟨by rfl, rfl⟩) ?_ ?_
        rotate_left
        · simp only [Act.put, List.setIfInBounds_toArray, List.set_cons_zero, List.set_cons_succ, i64_w, i32_w]
          rfl
        refine pure_ (i := 8) (N := some 14) (v := undef) (a' := ?_) #[true, true, true, true, true, true, true, true, true, false, false, false, false, false, false, false] rfl rfl (any_of HT_.out (by kernel_rfl)) (fun _ _ _ h => h) (Or.inr ⟨by rfl, rfl⟩) ?_ ?_
        rotate_left
        · simp only [Act.put, List.setIfInBounds_toArray, List.set_cons_zero, List.set_cons_succ, i64_w, i32_w]
          rfl
        refine pure_ (i := 9) (N := some 15) (v := undef) (a' := ?_) #[true, true, true, true, true, true, true, true, true, true, false, false, false, false, false, false] rfl rfl (any_of HT_.out (by kernel_rfl)) (fun _ _ _ h => h) (Or.inr ⟨by rfl, rfl⟩) ?_ ?_
        rotate_left
        · simp only [Act.put, List.setIfInBounds_toArray, List.set_cons_zero, List.set_cons_succ, i64_w, i32_w]
          rfl
        refine pure_ (i := 10) (N := some 16) (v := undef) (a' := ?_) #[true, true, true, true, true, true, true, true, true, true, true, false, false, false, false, false] rfl rfl (any_of HT_.out (by kernel_rfl)) (fun _ _ _ h => h) (Or.inr ⟨by rfl, rfl⟩) ?_ ?_
        rotate_left
        · simp only [Act.put, List.setIfInBounds_toArray, List.set_cons_zero, List.set_cons_succ, i64_w, i32_w]
          rfl
        refine pure_ (i := 11) (N := some 17) (v := undef) (a' := ?_) #[true, true, true, true, true, true, true, true, true, true, true, true, false, false, false, false] rfl rfl (any_of HT_.out (by kernel_rfl)) (fun _ _ _ h => h) (Or.inr ⟨by rfl, rfl⟩) ?_ ?_
        rotate_left
        · simp only [Act.put, List.setIfInBounds_toArray, List.set_cons_zero, List.set_cons_succ, i64_w, i32_w]
          rfl
        refine pure_ (i := 12) (N := some 18) (v := undef) (a' := ?_) #[true, true, true, true, true, true, true, true, true, true, true, true, true, false, false, false] rfl rfl (any_of HT_.out (by kernel_rfl)) (fun _ _ _ h => h) (Or.inr ⟨by rfl, rfl⟩) ?_ ?_
        rotate_left
        · simp only [Act.put, List.setIfInBounds_toArray, List.set_cons_zero, List.set_cons_succ, i64_w, i32_w]
          rfl
        refine pure_ (i := 13) (N := some 19) (v := undef) (a' := ?_) #[true, true, true, true, true, true, true, true, true, true, true, true, true, true, false, false] rfl rfl (any_of HT_.out (by kernel_rfl)) (fun _ _ _ h => h) (Or.inr ⟨by rfl, rfl⟩) ?_ ?_
        rotate_left
        · simp only [Act.put, List.setIfInBounds_toArray, List.set_cons_zero, List.set_cons_succ, i64_w, i32_w]
          rfl
        refine pure_ (i := 14) (N := some 20) (v := undef) (a' := ?_) #[true, true, true, true, true, true, true, true, true, true, true, true, true, true, true, false] rfl rfl (any_of HT_.out (by kernel_rfl)) (fun _ _ _ h => h) (Or.inr ⟨by rfl, rfl⟩) ?_ ?_
        rotate_left
        · simp only [Act.put, List.setIfInBounds_toArray, List.set_cons_zero, List.set_cons_succ, i64_w, i32_w]
          rfl
        refine pure_ (i := 15) (N := some 21) (v := ?_) (a' := ?_) #[true, true, true, true, true, true, true, true, true, true, true, true, true, true, true, true] rfl rfl (any_of HT_.out (by kernel_rfl)) (fun _ _ _ h => h) (Or.inl ⟨by rfl, ?_⟩) ?_ ?_
        rotate_left
        · intro w'
          (try simp only [add_plain] at s0 s1 s2 s3)
          go_simp
          with_reducible rfl
        rotate_left
        · simp only [Act.put, List.setIfInBounds_toArray, List.set_cons_zero, List.set_cons_succ, i64_w, i32_w]
          rfl
        refine done_ (done_of HT_.out (by kernel_rfl)) ?_
        try go_wp2
        go_ret
        exact ⟨by first | rfl | (simp [errW_none, errW_some] <;> rfl) | (simp [*, errW_none, errW_some] <;> rfl), by repeat (first | (with_reducible first | exact HB.out | apply below_alloc | apply pw_below_drewN | apply below_drew1 | refine below_set ?_ GE146.out) | exact HB.out)⟩

/-- A block that holds a small array. -/
def ArrAt (w : World) (g t : Nat) (k : IntKind) (l : List Int) : Prop := w.heap[g]? = some (.cells (nums k l).toArray t (0, 0))
theorem ArrAt.get {w : World} {g t : Nat} {k : IntKind} {l : List Int} (h : ArrAt w g t k l) (i : Nat) (hi : i < l.length) : w.cell? ⟨g, i, none⟩ = some (.int k (rd l i)) := by
  rw [blk_cell h i]
  simp [nums, rd, List.getD, List.getElem?_eq_getElem hi]
theorem ArrAt.frz {w : World} {g t : Nat} {k : IntKind} {l : List Int} (h : ArrAt w g t k l) (i : Nat) : w.frozen? ⟨g, i, none⟩ = false := blk_frozen h i
theorem ArrAt.put {w : World} {g t : Nat} {k : IntKind} {l : List Int} (h : ArrAt w g t k l) (i : Nat) (u : Int) : ArrAt (w.setCell ⟨g, i, none⟩ (.int k u)) g t k (l.set i u) := by
  refine blk_put h i _ ?_
  simp [nums, List.map_set]
theorem ArrAt.far {w : World} {g t g' j : Nat} {k : IntKind} {l : List Int} {u : Value} (h : ArrAt w g t k l) (hn : g ≠ g') : ArrAt (w.setCell ⟨g', j, none⟩ u) g t k l := blk_far h hn u
theorem ArrAt.drew {w : World} {g t : Nat} {k : IntKind} {l : List Int} (h : ArrAt w g t k l) (n : Nat) : ArrAt (w.drewN n) g t k l := blk_drewN h n
theorem ArrAt.alloc {w : World} {g t : Nat} {k : IntKind} {l : List Int} (h : ArrAt w g t k l) (o : Obj) : ArrAt (w.alloc o) g t k l := blk_alloc h o
theorem ArrAt.below {w w1 : World} {g t : Nat} {k : IntKind} {l : List Int} (h : ArrAt w g t k l) (hb : Below w.heap.size w w1) : ArrAt w1 g t k l := (hb.block g (blk_lt h)).trans h
theorem list8 : ∀ {l : List Int}, l.length = 8 → [rd l 0, rd l 1, rd l 2, rd l 3, rd l 4, rd l 5, rd l 6, rd l 7] = l
  | [a, b, c, d, e, f, g, h], _ => rfl
theorem set8 : ∀ {l : List Int}, l.length = 8 → ∀ a b c d e f g h : Int, (((((((l.set 0 a).set 1 b).set 2 c).set 3 d).set 4 e).set 5 f).set 6 g).set 7 h = [a, b, c, d, e, f, g, h]
  | [_, _, _, _, _, _, _, _], _, _, _, _, _, _, _, _, _ => rfl
theorem nums_size (k : IntKind) (l : List Int) : (nums k l).toArray.size = l.length := by simp [nums]
theorem ArrAt.put8 {w : World} {g t : Nat} {k : IntKind} {l : List Int} (h : ArrAt w g t k l) (S : List Int) (hS : S.length = 8) (hl : l.length = 8) :
    ArrAt ((((((((w.setCell ⟨g, 0, none⟩ (.int k (rd S 0))).setCell ⟨g, 1, none⟩ (.int k (rd S 1))).setCell ⟨g, 2, none⟩ (.int k (rd S 2))).setCell ⟨g, 3, none⟩ (.int k (rd S 3))).setCell ⟨g, 4, none⟩ (.int k (rd S 4))).setCell ⟨g, 5, none⟩ (.int k (rd S 5))).setCell ⟨g, 6, none⟩ (.int k (rd S 6))).setCell ⟨g, 7, none⟩ (.int k (rd S 7))) g t k S := by
  have h8 := (((((((h.put 0 (rd S 0)).put 1 (rd S 1)).put 2 (rd S 2)).put 3 (rd S 3)).put 4 (rd S 4)).put 5 (rd S 5)).put 6 (rd S 6)).put 7 (rd S 7)
  rw [set8 hl, list8 hS] at h8
  exact h8
theorem alloc_size (w : World) (o : Obj) : (w.alloc o).heap.size = w.heap.size + 1 := by show (w.heap.push o).size = _; simp
def Small (l : List Int) : Prop := l.length = 8 ∧ ∀ j : Nat, 0 ≤ rd l j ∧ rd l j ≤ 65535
def Dig (a0 a1 a2 a3 a4 a5 a6 a7 : Int) : Prop := (0 ≤ a0 ∧ a0 ≤ 65535) ∧ (0 ≤ a1 ∧ a1 ≤ 65535) ∧ (0 ≤ a2 ∧ a2 ≤ 65535) ∧ (0 ≤ a3 ∧ a3 ≤ 65535) ∧ (0 ≤ a4 ∧ a4 ≤ 65535) ∧ (0 ≤ a5 ∧ a5 ≤ 65535) ∧ (0 ≤ a6 ∧ a6 ≤ 65535) ∧ (0 ≤ a7 ∧ a7 ≤ 65535)
instance (a0 a1 a2 a3 a4 a5 a6 a7 : Int) : Decidable (Dig a0 a1 a2 a3 a4 a5 a6 a7) := by unfold Dig; infer_instance
theorem Dig.small {a0 a1 a2 a3 a4 a5 a6 a7 : Int} (h : Dig a0 a1 a2 a3 a4 a5 a6 a7) : Small [a0, a1, a2, a3, a4, a5, a6, a7] := by
  refine ⟨rfl, fun j => ?_⟩
  obtain ⟨h0, h1, h2, h3, h4, h5, h6, h7⟩ := h
  match j with
  | 0 => exact h0
  | 1 => exact h1
  | 2 => exact h2
  | 3 => exact h3
  | 4 => exact h4
  | 5 => exact h5
  | 6 => exact h6
  | 7 => exact h7
  | j + 8 =>
    have : rd [a0, a1, a2, a3, a4, a5, a6, a7] ((j + 8 : Nat) : Int) = 0 := by
      unfold rd
      rw [show ((j + 8 : Nat) : Int).toNat = j + 8 from rfl]
      rfl
    omega
/-- The number of eight digits; a number's digits. -/
def bigV (a0 a1 a2 a3 a4 a5 a6 a7 : Int) : Int := a0 + a1 * 65536 + a2 * 4294967296 + a3 * 281474976710656 + a4 * 18446744073709551616 + a5 * 1208925819614629174706176 + a6 * 79228162514264337593543950336 + a7 * 5192296858534827628530496329220096
def bigD (v : Int) (i : Nat) : Int := v / 65536 ^ i % 65536
def digs (v : Int) : Int × Int × Int × Int × Int × Int × Int × Int := (bigD v 0, bigD v 1, bigD v 2, bigD v 3, bigD v 4, bigD v 5, bigD v 6, bigD v 7)
theorem rounds_gen {P : Program} {c : Code} {Q : Exit → Act → World → Prop} {n : Nat} {a : Act} {W : World} (I : World → Prop) (h : I W) (k : ∀ W', I W' → Code.rounds P c Q n a W') : Code.rounds P c Q n a W := k W h
theorem and_65535 {x : Int} (h0 : 0 ≤ x) (h1 : x ≤ 18446744073709551615) : bits .and .u64 x 65535 = x % 65536 := by
  obtain ⟨n, rfl⟩ := Int.eq_ofNat_of_zero_le h0
  have := bits_and_u64_nat n 65535 (by omega) (by decide)
  rw [show ((65535 : Nat) : Int) = 65535 from rfl] at this
  rw [this, Nat.and_two_pow_sub_one_eq_mod n 16]
  rfl
theorem nums8 {k : IntKind} {l : List Int} (h : l.length = 8) : (#[Value.int k (rd l 0), Value.int k (rd l 1), Value.int k (rd l 2), Value.int k (rd l 3), Value.int k (rd l 4), Value.int k (rd l 5), Value.int k (rd l 6), Value.int k (rd l 7)] : Array Value) = (nums k l).toArray :=
  congrArg (fun z => (nums k z).toArray) (list8 h)

/-! ### offertoryref09_Of: function 12 -/
def offertoryref09_Of.f (a0_0 a0_1 : Int) : Option (Int × Int × Int × Int × Int × Int × Int × Int) :=
  if (0 ≤ a0_0 ∧ a0_0 ≤ 18446744073709551615) ∧ (0 ≤ a0_1 ∧ a0_1 ≤ 18446744073709551615) then some (digs (a0_1 + a0_0 * 18446744073709551616)) else none
set_option maxHeartbeats 800000 in
set_option maxRecDepth 100000 in
theorem offertoryref09_Of.calls (a0_0 a0_1 r1 r2 r3 r4 r5 r6 r7 r8 : Int) (w : World) (h : offertoryref09_Of.f a0_0 a0_1 = some (r1, r2, r3, r4, r5, r6, r7, r8)) :
    Calls Try.prog 12 #[.agg #[.int .u64 a0_0, .int .u64 a0_1]] w fun e w' => e = .returned (.agg #[.int .u32 r1, .int .u32 r2, .int .u32 r3, .int .u32 r4, .int .u32 r5, .int .u32 r6, .int .u32 r7, .int .u32 r8]) ∧ Below w.heap.size w w' := by
  unfold offertoryref09_Of.f at h
  split at h
  case isFalse => cases h
  rename_i hr
  have H := Aside0.mk h
  clear h
  obtain ⟨⟨h0, h1⟩, l0, l1⟩ := hr
  have hu29 := Try.underlying41
  have hu25 := Try.underlying34
  go_enter Try.func12, Try.ntmps12
  go_wp2
  refine wp_loop_rounds 5 ?_
  rw [rounds_succ]
  go_wp2
  rw [rounds_succ]
  go_wp2
  rw [rounds_succ]
  go_wp2
  rw [rounds_succ]
  go_wp2
  rw [rounds_succ]
  go_wp2
  refine bodyPost_ret (v := .agg #[.int .u32 (bits .and .u64 a0_1 65535 % 4294967296), .int .u32 (bits .and .u64 (a0_1 / 65536) 65535 % 4294967296), .int .u32 (bits .and .u64 (a0_1 / 4294967296) 65535 % 4294967296), .int .u32 (bits .and .u64 (a0_1 / 281474976710656) 65535 % 4294967296), .int .u32 (bits .and .u64 a0_0 65535 % 4294967296), .int .u32 (bits .and .u64 (a0_0 / 65536) 65535 % 4294967296), .int .u32 (bits .and .u64 (a0_0 / 4294967296) 65535 % 4294967296), .int .u32 (bits .and .u64 (a0_0 / 281474976710656) 65535 % 4294967296)]) (by simp [results, Try.results12, go_sem]) rfl ⟨?_, ?_⟩
  · have h := H.out
    simp only [Option.some.injEq, digs, Prod.mk.injEq] at h
    obtain ⟨rfl, rfl, rfl, rfl, rfl, rfl, rfl, rfl⟩ := h
    have e0 : bits .and .u64 a0_1 65535 % 4294967296 = bigD (a0_1 + a0_0 * 18446744073709551616) 0 := by rw [and_65535 (by omega) (by omega)]; simp only [bigD]; omega
    have e1 : bits .and .u64 (a0_1 / 65536) 65535 % 4294967296 = bigD (a0_1 + a0_0 * 18446744073709551616) 1 := by rw [and_65535 (by omega) (by omega)]; simp only [bigD]; omega
    have e2 : bits .and .u64 (a0_1 / 4294967296) 65535 % 4294967296 = bigD (a0_1 + a0_0 * 18446744073709551616) 2 := by rw [and_65535 (by omega) (by omega)]; simp only [bigD]; omega
    have e3 : bits .and .u64 (a0_1 / 281474976710656) 65535 % 4294967296 = bigD (a0_1 + a0_0 * 18446744073709551616) 3 := by rw [and_65535 (by omega) (by omega)]; simp only [bigD]; omega
    have e4 : bits .and .u64 a0_0 65535 % 4294967296 = bigD (a0_1 + a0_0 * 18446744073709551616) 4 := by rw [and_65535 (by omega) (by omega)]; simp only [bigD]; omega
    have e5 : bits .and .u64 (a0_0 / 65536) 65535 % 4294967296 = bigD (a0_1 + a0_0 * 18446744073709551616) 5 := by rw [and_65535 (by omega) (by omega)]; simp only [bigD]; omega
    have e6 : bits .and .u64 (a0_0 / 4294967296) 65535 % 4294967296 = bigD (a0_1 + a0_0 * 18446744073709551616) 6 := by rw [and_65535 (by omega) (by omega)]; simp only [bigD]; omega
    have e7 : bits .and .u64 (a0_0 / 281474976710656) 65535 % 4294967296 = bigD (a0_1 + a0_0 * 18446744073709551616) 7 := by rw [and_65535 (by omega) (by omega)]; simp only [bigD]; omega
    rw [e0, e1, e2, e3, e4, e5, e6, e7]
  · repeat (first | (with_reducible exact Below.refl _ _) | apply below_alloc)


/-! ### offertoryref09_Int: function 11 -/
def offertoryref09_Int.f (a0 : Int) : Option (Int × Int × Int × Int × Int × Int × Int × Int) :=
  if -9223372036854775808 ≤ a0 ∧ a0 ≤ 9223372036854775807 then some (digs a0) else none
set_option maxHeartbeats 1600000 in
set_option maxRecDepth 100000 in
theorem offertoryref09_Int.calls (a0 r1 r2 r3 r4 r5 r6 r7 r8 : Int) (w : World) (h : offertoryref09_Int.f a0 = some (r1, r2, r3, r4, r5, r6, r7, r8)) :
    Calls Try.prog 11 #[.int .i64 a0] w fun e w' => e = .returned (.agg #[.int .u32 r1, .int .u32 r2, .int .u32 r3, .int .u32 r4, .int .u32 r5, .int .u32 r6, .int .u32 r7, .int .u32 r8]) ∧ Below w.heap.size w w' := by
  unfold offertoryref09_Int.f at h
  split at h
  case isFalse => cases h
  rename_i hr
  simp only [Option.some.injEq, digs, Prod.mk.injEq] at h
  have H := Aside0.mk h
  clear h
  have hu29 := Try.underlying41
  have hu25 := Try.underlying34
  by_cases hn : a0 < 0
  · have hof : offertoryref09_Of.f 0 (a0 + 18446744073709551616) = some (bigD (a0 + 18446744073709551616) 0, bigD (a0 + 18446744073709551616) 1, bigD (a0 + 18446744073709551616) 2, bigD (a0 + 18446744073709551616) 3, 0, 0, 0, 0) := by
      have y4 : bigD (a0 + 18446744073709551616) 4 = 0 := by simp only [bigD]; omega
      have y5 : bigD (a0 + 18446744073709551616) 5 = 0 := by simp only [bigD]; omega
      have y6 : bigD (a0 + 18446744073709551616) 6 = 0 := by simp only [bigD]; omega
      have y7 : bigD (a0 + 18446744073709551616) 7 = 0 := by simp only [bigD]; omega
      unfold offertoryref09_Of.f
      rw [if_pos (by omega)]
      simp only [digs, Int.zero_mul, Int.add_zero, y4, y5, y6, y7]
    have hw : IntKind.u64.wrap a0 = a0 + 18446744073709551616 := by rw [IntKind.wrap_u64]; omega
    obtain ⟨rfl, rfl, rfl, rfl, rfl, rfl, rfl, rfl⟩ := H.out
    have z0 : bigD a0 0 = bigD (a0 + 18446744073709551616) 0 := by simp only [bigD]; omega
    have z1 : bigD a0 1 = bigD (a0 + 18446744073709551616) 1 := by simp only [bigD]; omega
    have z2 : bigD a0 2 = bigD (a0 + 18446744073709551616) 2 := by simp only [bigD]; omega
    have z3 : bigD a0 3 = bigD (a0 + 18446744073709551616) 3 := by simp only [bigD]; omega
    have z4 : bigD a0 4 = 65535 := by simp only [bigD]; omega
    have z5 : bigD a0 5 = 65535 := by simp only [bigD]; omega
    have z6 : bigD a0 6 = 65535 := by simp only [bigD]; omega
    have z7 : bigD a0 7 = 65535 := by simp only [bigD]; omega
    rw [z0, z1, z2, z3, z4, z5, z6, z7]
    clear z0 z1 z2 z3 z4 z5 z6 z7
    have HOF := Aside0.mk hof
    have t1 : decide (a0 < 0) = true := decide_eq_true hn
    clear hof H
    go_enter Try.func11, Try.ntmps11
    go_wp2_with fail
    go_at_call 12
    refine (offertoryref09_Of.calls 0 (a0 + 18446744073709551616) _ _ _ _ _ _ _ _ _ HOF.out).mono ?_
    rintro e w' ⟨rfl, hb⟩
    have hR : ArrAt w' w.heap.size 41 .u32 [0, 0, 0, 0, 0, 0, 0, 0] := ArrAt.below (blk_new w (.cells (nums .u32 [0, 0, 0, 0, 0, 0, 0, 0]).toArray 41)) hb
    have HB := Aside0.mk (below_step (w := w) (by repeat (first | (with_reducible exact Below.refl _ _) | apply below_alloc)) hb)
    have HR := Aside0.mk hR
    have hz : w.heap.size < w'.heap.size := by have := hb.size; rw [alloc_size] at this; omega
    have d0 := hR.get 0 (by decide)
    have f0 := hR.frz 0
    have d1 := hR.get 1 (by decide)
    have f1 := hR.frz 1
    have d2 := hR.get 2 (by decide)
    have f2 := hR.frz 2
    have d3 := hR.get 3 (by decide)
    have f3 := hR.frz 3
    have d4 := hR.get 4 (by decide)
    have f4 := hR.frz 4
    have d5 := hR.get 5 (by decide)
    have f5 := hR.frz 5
    have d6 := hR.get 6 (by decide)
    have f6 := hR.frz 6
    have d7 := hR.get 7 (by decide)
    have f7 := hR.frz 7
    clear hb hR
    go_wp2
    refine wp_loop_rounds 5 ?_
    rw [rounds_succ]
    go_wp2
    rw [rounds_succ]
    go_wp2
    rw [rounds_succ]
    go_wp2
    rw [rounds_succ]
    go_wp2
    rw [rounds_succ]
    go_wp2
    have hp := (HR.out.put8 [bigD (a0 + 18446744073709551616) 0, bigD (a0 + 18446744073709551616) 1, bigD (a0 + 18446744073709551616) 2, bigD (a0 + 18446744073709551616) 3, 65535, 65535, 65535, 65535] rfl rfl).alloc (.cells #[.int .u32 (bigD (a0 + 18446744073709551616) 0), .int .u32 (bigD (a0 + 18446744073709551616) 1), .int .u32 (bigD (a0 + 18446744073709551616) 2), .int .u32 (bigD (a0 + 18446744073709551616) 3), .int .u32 65535, .int .u32 65535, .int .u32 65535, .int .u32 65535] 41)
    refine bodyPost_ret (results_cell_row rfl _ _ w.heap.size 41 (nums .u32 [bigD (a0 + 18446744073709551616) 0, bigD (a0 + 18446744073709551616) 1, bigD (a0 + 18446744073709551616) 2, bigD (a0 + 18446744073709551616) 3, 65535, 65535, 65535, 65535]).toArray (0, 0) _ rfl hp Try.underlying41 rfl (by kernel_rfl)) rfl ⟨rfl, ?_⟩
    repeat (first | (with_reducible exact HB.out) | (with_reducible refine below_alloc ?_ _) | (with_reducible refine below_set ?_ (by omega)))
  · have hof : offertoryref09_Of.f 0 a0 = some (r1, r2, r3, r4, r5, r6, r7, r8) := by
      unfold offertoryref09_Of.f
      rw [if_pos (by omega)]
      simp only [Int.zero_mul, Int.add_zero, digs, H.out]
    have hw : IntKind.u64.wrap a0 = a0 := by rw [IntKind.wrap_u64]; omega
    have HOF := Aside0.mk hof
    have t1 : decide (a0 < 0) = false := decide_eq_false hn
    clear hof H
    go_enter Try.func11, Try.ntmps11
    go_wp2_with fail
    go_at_call 12
    refine (offertoryref09_Of.calls 0 a0 _ _ _ _ _ _ _ _ _ HOF.out).mono ?_
    rintro e w' ⟨rfl, hb⟩
    have hR : ArrAt w' w.heap.size 41 .u32 [0, 0, 0, 0, 0, 0, 0, 0] := ArrAt.below (blk_new w (.cells (nums .u32 [0, 0, 0, 0, 0, 0, 0, 0]).toArray 41)) hb
    have HB := Aside0.mk (below_step (w := w) (by repeat (first | (with_reducible exact Below.refl _ _) | apply below_alloc)) hb)
    have HR := Aside0.mk hR
    have hz : w.heap.size < w'.heap.size := by have := hb.size; rw [alloc_size] at this; omega
    have d0 := hR.get 0 (by decide)
    have f0 := hR.frz 0
    have d1 := hR.get 1 (by decide)
    have f1 := hR.frz 1
    have d2 := hR.get 2 (by decide)
    have f2 := hR.frz 2
    have d3 := hR.get 3 (by decide)
    have f3 := hR.frz 3
    have d4 := hR.get 4 (by decide)
    have f4 := hR.frz 4
    have d5 := hR.get 5 (by decide)
    have f5 := hR.frz 5
    have d6 := hR.get 6 (by decide)
    have f6 := hR.frz 6
    have d7 := hR.get 7 (by decide)
    have f7 := hR.frz 7
    clear hb hR
    go_wp2
    refine wp_loop_rounds 1 ?_
    rw [rounds_succ]
    go_wp2
    have hp := (HR.out.put8 [r1, r2, r3, r4, r5, r6, r7, r8] rfl rfl).alloc (.cells #[.int .u32 r1, .int .u32 r2, .int .u32 r3, .int .u32 r4, .int .u32 r5, .int .u32 r6, .int .u32 r7, .int .u32 r8] 41)
    refine bodyPost_ret (results_cell_row rfl _ _ w.heap.size 41 (nums .u32 [r1, r2, r3, r4, r5, r6, r7, r8]).toArray (0, 0) _ rfl hp Try.underlying41 rfl (by kernel_rfl)) rfl ⟨rfl, ?_⟩
    repeat (first | (with_reducible exact HB.out) | (with_reducible refine below_alloc ?_ _) | (with_reducible refine below_set ?_ (by omega)))


end Go.Proofs.Ythokkogdkpmdcaa.PAll
