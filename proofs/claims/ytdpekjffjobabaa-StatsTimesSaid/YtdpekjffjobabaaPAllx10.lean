/- The Go functions that the laws reach, as Lean functions, and that each call comes to what its function says. Written by a program of this session (a turned copy of the kit's print). No condition beyond those that each theorem states. -/
import Derived.Test.YtdpekjffjobabaaPAllx0
import Derived.Test.YtdpekjffjobabaaPAllx3
import Derived.Test.YtdpekjffjobabaaPAllx8
import Derived.Test.YtdpekjffjobabaaPAllx9
namespace Go.Proofs.Ytdpekjffjobabaa.PAll
open Go.RowKit Go.Proofs.YtdpekjffjobabaaW.PrintWords Go.Proofs.YtdpekjffjobabaaW.PrintLast Go.Proofs.YtdpekjffjobabaaW.PrintMore
attribute [local go_sem] max2_int min2_int max_two min_two max_three min_three max_four min_four   -- for this text's walks alone
set_option linter.unusedVariables false
set_option linter.unusedSimpArgs false

theorem offertoryref09_Bin.keepB {W0 W w1 : World} {g : Nat} {o : Obj} (h : Aside0 (W0.heap[g]? = some o)) (hb : Below W.heap.size W w1) (hs : W0.heap[g]? = some o → W.heap[g]? = some o := by intro h_; (with_reducible repeat (first | refine blk_drewN ?_ _ | refine blk_drew ?_ | refine blk_alloc ?_ _)); exact h_) : Aside0 (w1.heap[g]? = some o) := ⟨(hb.block g (blk_lt (hs h.out))).trans (hs h.out)⟩
theorem offertoryref09_Bin.neL {W0 W : World} {g gb : Nat} {o : Obj} (h : Aside0 (W0.heap[g]? = some o)) (hg : gb = W.heap.size) (hs : W0.heap[g]? = some o → W.heap[g]? = some o := by intro h_; (with_reducible repeat (first | refine blk_drewN ?_ _ | refine blk_drew ?_ | refine blk_alloc ?_ _)); exact h_) : Aside0 (g ≠ gb) := ⟨by rw [hg]; exact Nat.ne_of_lt (blk_lt (hs h.out))⟩
theorem offertoryref09_Bin.neG {W0 W : World} {g gb : Nat} {o : Obj} (h : Aside0 (W0.heap[g]? = some o)) (hg : gb = W.heap.size) (hs : W0.heap[g]? = some o → W.heap[g]? = some o := by intro h_; (with_reducible repeat (first | refine blk_drewN ?_ _ | refine blk_drew ?_ | refine blk_alloc ?_ _)); exact h_) : Aside0 (gb ≠ g) := ⟨by rw [hg]; exact Nat.ne_of_gt (blk_lt (hs h.out))⟩
/-! ### offertoryref09_Bin: function 28 -/
def offertoryref09_Bin.l0 : Nat → Int → Int → Int → Int → Int → List Int → Option (Int)
  | 0, _, _, _, _, _, _ => none
  | k + 1, x1, x5, x232000, x232001, x232002, x232003 => if x5 < (x232003.length : Int) then (if 0 ≤ x5 then ((offertoryref09_Clamp.f x232000 x232001 x232002 x232003 x1).bind fun t233 => (if (rd x232003 x5) ≤ t233 then (offertoryref09_Bin.l0 k x1 (wrap64 (x5 + 1)) x232000 x232001 x232002 x232003) else (some x5))) else (none)) else (some x5)
def offertoryref09_Bin.f (k : Nat) (a0_0 : Int) (a0_1 : Int) (a0_2 : Int) (l0_3 : List Int) (a1 : Int) : Option (Int) := offertoryref09_Bin.l0 k a1 0 a0_0 a0_1 a0_2 l0_3
theorem offertoryref09_Bin.mono_l : ∀ k, (∀ y0 y1 y2 y3 y4 y5, LeO (offertoryref09_Bin.l0 k y0 y1 y2 y3 y4 y5) (offertoryref09_Bin.l0 (k + 1) y0 y1 y2 y3 y4 y5))
  | 0 => fun _ _ _ _ _ _ r h => by simp [offertoryref09_Bin.l0] at h
  | k + 1 => by
    have ih0 := offertoryref09_Bin.mono_l k
    · intro y0 y1 y2 y3 y4 y5
      unfold offertoryref09_Bin.l0
      repeat' first
      | (with_reducible exact ih0 _ _ _ _ _ _)
      | (with_reducible exact LeO.refl _)
      | (with_reducible exact LeO.none _)
      | (with_reducible refine LeO.ite ?_ ?_)
      | (with_reducible refine LeO.bind ?_ (fun _ => ?_))
      | exact ih0 _ _ _ _ _ _
      | exact LeO.none _
      | refine LeO.ite ?_ ?_
      | refine LeO.bind ?_ (fun _ => ?_)
theorem offertoryref09_Bin.mono : ∀ a0 a1 a2 a3 a4 k, LeO (offertoryref09_Bin.f k a0 a1 a2 a3 a4) (offertoryref09_Bin.f (k + 1) a0 a1 a2 a3 a4) := by
  intro a0 a1 a2 a3 a4 k
  have ih0 := offertoryref09_Bin.mono_l k
  unfold offertoryref09_Bin.f
  repeat' first
      | (with_reducible exact ih0 _ _ _ _ _ _)
      | (with_reducible exact LeO.refl _)
      | (with_reducible exact LeO.none _)
      | (with_reducible refine LeO.ite ?_ ?_)
      | (with_reducible refine LeO.bind ?_ (fun _ => ?_))
      | exact ih0 _ _ _ _ _ _
      | exact LeO.none _
      | refine LeO.ite ?_ ?_
      | refine LeO.bind ?_ (fun _ => ?_)
def offertoryref09_Bin.T2 : Bool × List (List Nat × List Nat) := (true, [([], []), ([], []), ([1], [1]), ([2], [2]), ([0, 3], [0, 3]), ([4], [4]), ([5], [5]), ([6, 5], [5, 6]), ([5], [5]), ([7, 8, 5], [5, 7, 8]), ([9, 5], [5, 9]), ([5], [5]), ([5], [5]), ([11, 12, 5, 5], [5, 11, 12]), ([10, 13, 5], [5, 10, 13]), ([5, 14], [5, 14])])
def offertoryref09_Bin.B2 : List Nat := [0, 0, 2, 6, 15, 31, 63, 127, 63, 511, 1023, 63, 63, 6207, 16383, 32767]
theorem offertoryref09_Bin.tab2 : rtab .any (opsOf Try.f28 2) = offertoryref09_Bin.T2 := by kernel_rfl
theorem offertoryref09_Bin.bits2 : waitsOk offertoryref09_Bin.T2.2 offertoryref09_Bin.B2 = true := by kernel_rfl
set_option maxHeartbeats 8000000 in
set_option maxRecDepth 100000 in
theorem offertoryref09_Bin.calls (k : Nat) (a0_0 : Int) (a0_1 : Int) (a0_2 : Int) (A0_3 : Option Addr) (c0_3 : Nat) (l0_3 : List Int) (a1 : Int) (r : Int) (w : World) (hr0_3 : Kd.C (Kd.int .i64) w A0_3 l0_3.length l0_3) (hc0_3 : l0_3.length ≤ c0_3) (h : offertoryref09_Bin.f k a0_0 a0_1 a0_2 l0_3 a1 = some r) :
    Calls Try.prog 28 #[.agg #[.int .i64 a0_0, .int .i64 a0_1, .int .i64 a0_2, .slice A0_3 l0_3.length c0_3], .int .i64 a1] w fun e w' => e = .returned (.int .i64 r) ∧ Below w.heap.size w w' := by
  have hu24 := Try.underlying24
  have HR0_3 := Aside0.mk hr0_3
  have HC0_3 := Aside0.mk hc0_3
  clear hr0_3 hc0_3
  have HB := Aside0.mk (Below.refl w.heap.size w)
  have H : (offertoryref09_Bin.l0 k a1 0 a0_0 a0_1 a0_2 l0_3) = some r := h
  clear h
  have H' := Aside0.mk H
  clear H
  go_enter Try.func28, Try.ntmps28
  go_wp2_with (first | ((with_reducible refine gate_dst (N := 2) rfl ?_); refine box_event ?hg (N := 2) ?hd (cs := #[.int .i64 a0_0, .int .i64 a0_1, .int .i64 a0_2, .slice A0_3 l0_3.length c0_3]) (t := 24) ?hr ?_; (case hd => rfl); (case hg => rfl); (case hr => first | (go_simp; done) | (go_simp; rfl)); intro gb231 hg w3 hbox hb; have n0_ := Aside0.mk (below_step (by repeat (first | (with_reducible first | exact HB.out | apply below_alloc | apply pw_below_drewN | apply below_drew1) | exact HB.out)) hb); have n1_ := Aside0.mk (hbox); have n2_ := Aside0.mk ((by rw [hg]; exact (below_size (by repeat (first | (with_reducible first | exact HB.out | apply below_alloc | apply pw_below_drewN | apply below_drew1) | exact HB.out))) : w.heap.size ≤ gb231)); have n3_ := Aside0.mk ((by rw [hg]; exact (below_size (by repeat (first | (with_reducible first | exact HB.out | apply below_alloc | apply pw_below_drewN | apply below_drew1) | exact HB.out))) : w.heap.size ≤ gb231)); clear HB; have HB := n0_; have BK231 := n1_; have GW231 := n2_; have GE231 := n3_; clear n0_ n1_ n2_ n3_; clear hb hbox hg))
  go_loopg [5] k (fun kq v5 w' => ∃ (x5_1 : Int), v5 = .int .i64 x5_1 ∧ Aside0 (offertoryref09_Bin.l0 kq a1 x5_1 a0_0 a0_1 a0_2 l0_3 = some r) ∧ Aside0 (kq ≤ k) ∧ Aside0 (w'.heap[gb231]? = some (.cells #[.int .i64 a0_0, .int .i64 a0_1, .int .i64 a0_2, (.slice A0_3 l0_3.length c0_3)] 24 (0, 0))) ∧ Aside0 (Below w.heap.size w w'))
  case atStart => exact ⟨(0), (by first | rfl | (simp; done) | (simp [*]; done)), H', ⟨Nat.le_refl _⟩, ⟨by (with_reducible repeat (first | refine blk_drewN ?_ _ | refine blk_drew ?_ | refine blk_alloc ?_ _)); exact BK231.out⟩, ⟨by repeat (first | (with_reducible first | exact HB.out | apply below_alloc | apply pw_below_drewN | apply below_drew1 | refine below_set ?_ GE231.out) | exact HB.out)⟩⟩
  case round =>
    clear H'
    try clear c2
    try clear p2
    obtain ⟨x5_1, rfl, HA, HK1, BK231, HB⟩ := hrel
    cases gk with
    | zero => exact absurd HA.out (by simp [offertoryref09_Bin.l0])
    | succ k1 =>
      have H := HA.out
      clear HA
      simp only [offertoryref09_Bin.l0] at H
      by_cases c4 : x5_1 < (l0_3.length : Int)
      · rw [if_pos c4] at H
        have c4b0 : decide (x5_1 < (l0_3.length : Int)) = true := decide_eq_true c4
        clear c4
        by_cases c5 : 0 ≤ x5_1
        · rw [if_pos c5] at H
          have c5b0 : decide (0 ≤ x5_1) = true := decide_eq_true c5
          clear c5
          replace H := Option.bind_eq_some_iff.mp H
          obtain ⟨t233, A60, H⟩ := H
          replace H : (if (rd l0_3 x5_1) ≤ t233 then (offertoryref09_Bin.l0 k1 a1 (wrap64 (x5_1 + 1)) a0_0 a0_1 a0_2 l0_3) else (some x5_1)) = some r := H
          have A6 := Aside0.mk A60
          clear A60
          by_cases c7 : (rd l0_3 x5_1) ≤ t233
          · rw [if_pos c7] at H
            have c7b0 : decide ((rd l0_3 x5_1) ≤ t233) = true := decide_eq_true c7
            clear c7
            have H' := Aside0.mk H
            clear H
            try go_wp2
            have n0_ := Aside0.mk (blk_drew BK231.out)
            have n1_ := Aside0.mk (below_drew1 HB.out)
            clear BK231
            clear HB
            have BK231 := n0_
            have HB := n1_
            clear n0_ n1_
            have p232 : 0 ≤ (x5_1 : Int) := of_decide_eq_true (by first | (with_reducible assumption) | assumption)
            have q232 : x5_1 < (l0_3.length : Int) := of_decide_eq_true (by first | (with_reducible assumption) | assumption)
            obtain ⟨ad232, e232, hx232_0⟩ := Kd.at_int HR0_3.out x5_1 p232 q232
            have hw232_0 := hx232_0
            cases e232
            replace hx232_0 := (HB.out.cell (World.block_lt_of_cell? w _ hx232_0)).trans hx232_0
            replace p232 := eq_true p232
            replace q232 := eq_true q232
            refine start_ (n := 16) (S := fun w' => w'.cell? ⟨gb231, 0, none⟩ = some (.int .i64 a0_0) ∧ w'.cell? ⟨gb231, 1, none⟩ = some (.int .i64 a0_1) ∧ w'.cell? ⟨gb231, 2, none⟩ = some (.int .i64 a0_2) ∧ w'.cell? ⟨gb231, 3, none⟩ = some (.slice (some ad232) l0_3.length c0_3) ∧ w'.cell? (ad232.add (x5_1).toNat) = some (.int .i64 (rd l0_3 x5_1))) (ds := []) #[false, false, false, false, false, false, false, false, false, false, false, false, false, false, false, false] (by kernel_rfl) rfl rfl ⟨(blk_cell BK231.out 0).trans rfl, (blk_cell BK231.out 1).trans rfl, (blk_cell BK231.out 2).trans rfl, (blk_cell BK231.out 3).trans rfl, ((HB.out.cell (World.block_lt_of_cell? w _ hw232_0)).trans hw232_0)⟩ (fun hHeld => ?_); refine with_tabW offertoryref09_Bin.tab2 offertoryref09_Bin.bits2 (fun HT_ HW_ => ?_)
            generalize wr.drew = w8 at BK231 HB hx232_0 hHeld ⊢
            refine pure_ (i := 0) (N := some 6) (v := ?_) (a' := ?_) #[true, false, false, false, false, false, false, false, false, false, false, false, false, false, false, false] rfl rfl (any_of HT_.out (by kernel_rfl)) (fun _ _ _ h => h) (Or.inl ⟨by rfl, ?_⟩) ?_ ?_
            rotate_left
            · intro w'
              (try simp only [add_plain] at s0 s1 s2 s3 s4)
              go_simp
              with_reducible rfl
            rotate_left
            · simp only [Act.put, List.setIfInBounds_toArray, List.set_cons_zero, List.set_cons_succ, i64_w, i32_w]
              rfl
            refine pure_ (i := 1) (N := some 7) (v := ?_) (a' := ?_) #[true, true, false, false, false, false, false, false, false, false, false, false, false, false, false, false] rfl rfl (any_of HT_.out (by kernel_rfl)) (fun _ _ _ h => h) (Or.inl ⟨by rfl, ?_⟩) ?_ ?_
            rotate_left
            · intro w'
              (try simp only [add_plain] at s0 s1 s2 s3 s4)
              go_simp
              with_reducible rfl
            rotate_left
            · simp only [Act.put, List.setIfInBounds_toArray, List.set_cons_zero, List.set_cons_succ, i64_w, i32_w]
              rfl
            refine take_ (i := 2) (N := some 8) (v := ?_) (a' := ?_) #[true, true, true, false, false, false, false, false, false, false, false, false, false, false, false, false] rfl rfl (take_ofW HT_.out HW_.out (by kernel_rfl)) (fun _ _ _ h => h) (Or.inl ⟨by rfl, ?_⟩) hHeld ?_ ?_
            rotate_left
            · rintro w' ⟨s0, s1, s2, s3, s4⟩
              (try simp only [add_plain] at s0 s1 s2 s3 s4)
              go_simp
              with_reducible rfl
            rotate_left
            · simp only [Act.put, List.setIfInBounds_toArray, List.set_cons_zero, List.set_cons_succ, i64_w, i32_w]
              rfl
            refine pure_ (i := 3) (N := some 9) (v := ?_) (a' := ?_) #[true, true, true, true, false, false, false, false, false, false, false, false, false, false, false, false] rfl rfl (any_of HT_.out (by kernel_rfl)) (fun _ _ _ h => h) (Or.inl ⟨by rfl, ?_⟩) ?_ ?_
            rotate_left
            · intro w'
              (try simp only [add_plain] at s0 s1 s2 s3 s4)
              go_simp
              with_reducible rfl
            rotate_left
            · simp only [Act.put, List.setIfInBounds_toArray, List.set_cons_zero, List.set_cons_succ, i64_w, i32_w]
              rfl
            refine pure_ (i := 4) (N := some 10) (v := ?_) (a' := ?_) #[true, true, true, true, true, false, false, false, false, false, false, false, false, false, false, false] rfl rfl (any_of HT_.out (by kernel_rfl)) (fun _ _ _ h => h) (Or.inl ⟨by rfl, ?_⟩) ?_ ?_
            rotate_left
            · intro w'
              (try simp only [add_plain] at s0 s1 s2 s3 s4)
              go_simp
              with_reducible rfl
            rotate_left
            · simp only [Act.put, List.setIfInBounds_toArray, List.set_cons_zero, List.set_cons_succ, i64_w, i32_w]
              rfl
            refine pure_ (i := 5) (N := some 11) (v := ?_) (a' := ?_) #[true, true, true, true, true, true, false, false, false, false, false, false, false, false, false, false] rfl rfl (any_of HT_.out (by kernel_rfl)) (fun _ _ _ h => h) (Or.inl ⟨by rfl, ?_⟩) ?_ ?_
            rotate_left
            · intro w'
              (try simp only [add_plain] at s0 s1 s2 s3 s4)
              go_simp
              with_reducible rfl
            rotate_left
            · simp only [Act.put, List.setIfInBounds_toArray, List.set_cons_zero, List.set_cons_succ, i64_w, i32_w]
              rfl
            refine pure_ (i := 6) (N := some 12) (v := ?_) (a' := ?_) #[true, true, true, true, true, true, true, false, false, false, false, false, false, false, false, false] rfl rfl (any_of HT_.out (by kernel_rfl)) (fun _ _ _ h => h) (Or.inl ⟨by rfl, ?_⟩) ?_ ?_
            rotate_left
            · intro w'
              (try simp only [add_plain] at s0 s1 s2 s3 s4)
              go_simp
              with_reducible rfl
            rotate_left
            · simp only [Act.put, List.setIfInBounds_toArray, List.set_cons_zero, List.set_cons_succ, i64_w, i32_w]
              rfl
            refine pure_ (i := 8) (N := some 14) (v := ?_) (a' := ?_) #[true, true, true, true, true, true, true, false, true, false, false, false, false, false, false, false] rfl rfl (any_of HT_.out (by kernel_rfl)) (fun _ _ _ h => h) (Or.inl ⟨by rfl, ?_⟩) ?_ ?_
            rotate_left
            · intro w'
              (try simp only [add_plain] at s0 s1 s2 s3 s4)
              go_simp
              with_reducible rfl
            rotate_left
            · simp only [Act.put, List.setIfInBounds_toArray, List.set_cons_zero, List.set_cons_succ, i64_w, i32_w]
              rfl
            refine pure_ (i := 12) (N := some 18) (v := ?_) (a' := ?_) #[true, true, true, true, true, true, true, false, true, false, false, false, true, false, false, false] rfl rfl (any_of HT_.out (by kernel_rfl)) (fun _ _ _ h => h) (Or.inl ⟨by rfl, ?_⟩) ?_ ?_
            rotate_left
            · intro w'
              (try simp only [add_plain] at s0 s1 s2 s3 s4)
              go_simp
              with_reducible rfl
            rotate_left
            · simp only [Act.put, List.setIfInBounds_toArray, List.set_cons_zero, List.set_cons_succ, i64_w, i32_w]
              rfl
            refine take_ (i := 7) (N := some 13) (v := ?_) (a' := ?_) #[true, true, true, true, true, true, true, true, true, false, false, false, true, false, false, false] rfl rfl (take_ofW HT_.out HW_.out (by kernel_rfl)) (fun _ _ _ h => h) (Or.inl ⟨by rfl, ?_⟩) hHeld ?_ ?_
            rotate_left
            · rintro w' ⟨s0, s1, s2, s3, s4⟩
              (try simp only [add_plain] at s0 s1 s2 s3 s4)
              go_simp
              with_reducible rfl
            rotate_left
            · simp only [Act.put, List.setIfInBounds_toArray, List.set_cons_zero, List.set_cons_succ, i64_w, i32_w]
              rfl
            refine pure_ (i := 9) (N := some 15) (v := ?_) (a' := ?_) #[true, true, true, true, true, true, true, true, true, true, false, false, true, false, false, false] rfl rfl (any_of HT_.out (by kernel_rfl)) (fun _ _ _ h => h) (Or.inl ⟨by rfl, ?_⟩) ?_ ?_
            rotate_left
            · intro w'
              (try simp only [add_plain] at s0 s1 s2 s3 s4)
              go_simp
              with_reducible rfl
            rotate_left
            · simp only [Act.put, List.setIfInBounds_toArray, List.set_cons_zero, List.set_cons_succ, i64_w, i32_w]
              rfl
            refine take_ (i := 10) (N := some 16) (v := ?_) (a' := ?_) #[true, true, true, true, true, true, true, true, true, true, true, false, true, false, false, false] rfl rfl (take_ofW HT_.out HW_.out (by kernel_rfl)) (fun _ _ _ h => h) (Or.inl ⟨by rfl, ?_⟩) hHeld ?_ ?_
            rotate_left
            · rintro w' ⟨s0, s1, s2, s3, s4⟩
              (try simp only [add_plain] at s0 s1 s2 s3 s4)
              go_simp
              with_reducible rfl
            rotate_left
            · simp only [Act.put, List.setIfInBounds_toArray, List.set_cons_zero, List.set_cons_succ, i64_w, i32_w]
              rfl
            refine take_ (i := 11) (N := some 17) (v := ?_) (a' := ?_) #[true, true, true, true, true, true, true, true, true, true, true, true, true, false, false, false] rfl rfl (take_ofW HT_.out HW_.out (by kernel_rfl)) (fun _ _ _ h => h) (Or.inl ⟨by rfl, ?_⟩) hHeld ?_ ?_
            rotate_left
            · rintro w' ⟨s0, s1, s2, s3, s4⟩
              (try simp only [add_plain] at s0 s1 s2 s3 s4)
              go_simp
              with_reducible rfl
            rotate_left
            · simp only [Act.put, List.setIfInBounds_toArray, List.set_cons_zero, List.set_cons_succ, i64_w, i32_w]
              rfl
            refine one_ (i := 13) (N := some 19) #[true, true, true, true, true, true, true, true, true, true, true, true, true, true, false, false] rfl rfl (one_of HT_.out (by kernel_rfl)) (by decide) (fun K hK => ?_)
            refine goes_ Try.func30 (by kernel_rfl) rfl #[.agg #[.int .i64 a0_0, .int .i64 a0_1, .int .i64 a0_2, .slice (some ad232) l0_3.length c0_3], .int .i64 a1] (by rfl) rfl rfl (by (try simp only [List.map_toArray, List.map_cons, List.map_nil]); first | done | rfl | (simp only [List.length_drop, List.length_take]; rfl)) ?_
            with_reducible refine (offertoryref09_Clamp.calls a0_0 a0_1 a0_2 _ _ l0_3 a1 t233 _ ?side1 ?side2 A6.out).mono ?_
            (case side1 => repeat (first | exact (Kd.C_below HR0_3.out HB.out) | (with_reducible refine Kd.C_alloc ?_ _) | (with_reducible refine Kd.C_drewN ?_ _) | (with_reducible refine Kd.C_drew ?_)))
            (case side2 => exact HC0_3.out)
            rintro e w9 ⟨rfl, hb⟩
            refine ⟨_, rfl, ?_⟩
            have n0_ := offertoryref09_Bin.keepB BK231 hb
            have n1_ := Aside0.mk (below_step (by repeat (first | (with_reducible first | exact HB.out | apply below_alloc | apply pw_below_drewN | apply below_drew1 | refine below_set ?_ GE231.out) | exact HB.out)) hb)
            clear BK231
            clear HB
            have BK231 := n0_
            have HB := n1_
            clear n0_ n1_
            (try clear hb)
            (try clear hb2)
            (try clear hk)
            (try clear hi)
            refine hK.out _ _ ⟨(blk_cell BK231.out 0).trans rfl, (blk_cell BK231.out 1).trans rfl, (blk_cell BK231.out 2).trans rfl, (blk_cell BK231.out 3).trans rfl, ((HB.out.cell (World.block_lt_of_cell? w _ hw232_0)).trans hw232_0)⟩ (fun hHeld => ?_)
            clear hK K
            refine norm_ (a' := ?_) ?_ ?_
            rotate_left
            · show Act.put _ (some 19) _ = _
              simp only [Act.put, List.setIfInBounds_toArray, List.set_cons_zero, List.set_cons_succ, i64_w, i32_w]
              rfl
            refine pure_ (i := 14) (N := some 20) (v := ?_) (a' := ?_) #[true, true, true, true, true, true, true, true, true, true, true, true, true, true, true, false] rfl rfl (any_of HT_.out (by kernel_rfl)) (fun _ _ _ h => h) (Or.inl ⟨by rfl, ?_⟩) ?_ ?_
            rotate_left
            · intro w'
              (try simp only [add_plain] at s0 s1 s2 s3 s4)
              go_simp
              with_reducible rfl
            rotate_left
            · simp only [Act.put, List.setIfInBounds_toArray, List.set_cons_zero, List.set_cons_succ, i64_w, i32_w]
              rfl
            refine pure_ (i := 15) (N := some 21) (v := ?_) (a' := ?_) #[true, true, true, true, true, true, true, true, true, true, true, true, true, true, true, true] rfl rfl (any_of HT_.out (by kernel_rfl)) (fun _ _ _ h => h) (Or.inl ⟨by rfl, ?_⟩) ?_ ?_
            rotate_left
            · intro w'
              (try simp only [add_plain] at s0 s1 s2 s3 s4)
              go_simp
              with_reducible rfl
            rotate_left
            · simp only [Act.put, List.setIfInBounds_toArray, List.set_cons_zero, List.set_cons_succ, i64_w, i32_w]
              rfl
            refine done_ (done_of HT_.out (by kernel_rfl)) ?_
            try go_wp2
            go_roundg k1
            case measure => have := HK1.out; omega
            case rel => exact ⟨(wrap64 (x5_1 + 1)), (by first | rfl | (simp; done) | (simp [*]; done)), H', ⟨by have := HK1.out; omega⟩, ⟨by (with_reducible repeat (first | refine blk_drewN ?_ _ | refine blk_drew ?_ | refine blk_alloc ?_ _)); exact BK231.out⟩, ⟨by repeat (first | (with_reducible first | exact HB.out | apply below_alloc | apply pw_below_drewN | apply below_drew1 | refine below_set ?_ GE231.out) | exact HB.out)⟩⟩
          · rw [if_neg c7] at H
            have c7b0 : decide ((rd l0_3 x5_1) ≤ t233) = false := decide_eq_false c7
            clear c7
            obtain rfl := Option.some.inj H
            try go_wp2
            have n0_ := Aside0.mk (blk_drew BK231.out)
            have n1_ := Aside0.mk (below_drew1 HB.out)
            clear BK231
            clear HB
            have BK231 := n0_
            have HB := n1_
            clear n0_ n1_
            have p232 : 0 ≤ (x5_1 : Int) := of_decide_eq_true (by first | (with_reducible assumption) | assumption)
            have q232 : x5_1 < (l0_3.length : Int) := of_decide_eq_true (by first | (with_reducible assumption) | assumption)
            obtain ⟨ad232, e232, hx232_0⟩ := Kd.at_int HR0_3.out x5_1 p232 q232
            have hw232_0 := hx232_0
            cases e232
            replace hx232_0 := (HB.out.cell (World.block_lt_of_cell? w _ hx232_0)).trans hx232_0
            replace p232 := eq_true p232
            replace q232 := eq_true q232
            refine start_ (n := 16) (S := fun w' => w'.cell? ⟨gb231, 0, none⟩ = some (.int .i64 a0_0) ∧ w'.cell? ⟨gb231, 1, none⟩ = some (.int .i64 a0_1) ∧ w'.cell? ⟨gb231, 2, none⟩ = some (.int .i64 a0_2) ∧ w'.cell? ⟨gb231, 3, none⟩ = some (.slice (some ad232) l0_3.length c0_3) ∧ w'.cell? (ad232.add (x5_1).toNat) = some (.int .i64 (rd l0_3 x5_1))) (ds := []) #[false, false, false, false, false, false, false, false, false, false, false, false, false, false, false, false] (by kernel_rfl) rfl rfl ⟨(blk_cell BK231.out 0).trans rfl, (blk_cell BK231.out 1).trans rfl, (blk_cell BK231.out 2).trans rfl, (blk_cell BK231.out 3).trans rfl, ((HB.out.cell (World.block_lt_of_cell? w _ hw232_0)).trans hw232_0)⟩ (fun hHeld => ?_); refine with_tabW offertoryref09_Bin.tab2 offertoryref09_Bin.bits2 (fun HT_ HW_ => ?_)
            generalize wr.drew = w10 at BK231 HB hx232_0 hHeld ⊢
            refine pure_ (i := 0) (N := some 6) (v := ?_) (a' := ?_) #[true, false, false, false, false, false, false, false, false, false, false, false, false, false, false, false] rfl rfl (any_of HT_.out (by kernel_rfl)) (fun _ _ _ h => h) (Or.inl ⟨by rfl, ?_⟩) ?_ ?_
            rotate_left
            · intro w'
              (try simp only [add_plain] at s0 s1 s2 s3 s4)
              go_simp
              with_reducible rfl
            rotate_left
            · simp only [Act.put, List.setIfInBounds_toArray, List.set_cons_zero, List.set_cons_succ, i64_w, i32_w]
              rfl
            refine pure_ (i := 1) (N := some 7) (v := ?_) (a' := ?_) #[true, true, false, false, false, false, false, false, false, false, false, false, false, false, false, false] rfl rfl (any_of HT_.out (by kernel_rfl)) (fun _ _ _ h => h) (Or.inl ⟨by rfl, ?_⟩) ?_ ?_
            rotate_left
            · intro w'
              (try simp only [add_plain] at s0 s1 s2 s3 s4)
              go_simp
              with_reducible rfl
            rotate_left
            · simp only [Act.put, List.setIfInBounds_toArray, List.set_cons_zero, List.set_cons_succ, i64_w, i32_w]
              rfl
            refine take_ (i := 2) (N := some 8) (v := ?_) (a' := ?_) #[true, true, true, false, false, false, false, false, false, false, false, false, false, false, false, false] rfl rfl (take_ofW HT_.out HW_.out (by kernel_rfl)) (fun _ _ _ h => h) (Or.inl ⟨by rfl, ?_⟩) hHeld ?_ ?_
            rotate_left
            · rintro w' ⟨s0, s1, s2, s3, s4⟩
              (try simp only [add_plain] at s0 s1 s2 s3 s4)
              go_simp
              with_reducible rfl
            rotate_left
            · simp only [Act.put, List.setIfInBounds_toArray, List.set_cons_zero, List.set_cons_succ, i64_w, i32_w]
              rfl
            refine pure_ (i := 3) (N := some 9) (v := ?_) (a' := ?_) #[true, true, true, true, false, false, false, false, false, false, false, false, false, false, false, false] rfl rfl (any_of HT_.out (by kernel_rfl)) (fun _ _ _ h => h) (Or.inl ⟨by rfl, ?_⟩) ?_ ?_
            rotate_left
            · intro w'
              (try simp only [add_plain] at s0 s1 s2 s3 s4)
              go_simp
              with_reducible rfl
            rotate_left
            · simp only [Act.put, List.setIfInBounds_toArray, List.set_cons_zero, List.set_cons_succ, i64_w, i32_w]
              rfl
            refine pure_ (i := 4) (N := some 10) (v := ?_) (a' := ?_) #[true, true, true, true, true, false, false, false, false, false, false, false, false, false, false, false] rfl rfl (any_of HT_.out (by kernel_rfl)) (fun _ _ _ h => h) (Or.inl ⟨by rfl, ?_⟩) ?_ ?_
            rotate_left
            · intro w'
              (try simp only [add_plain] at s0 s1 s2 s3 s4)
              go_simp
              with_reducible rfl
            rotate_left
            · simp only [Act.put, List.setIfInBounds_toArray, List.set_cons_zero, List.set_cons_succ, i64_w, i32_w]
              rfl
            refine pure_ (i := 5) (N := some 11) (v := ?_) (a' := ?_) #[true, true, true, true, true, true, false, false, false, false, false, false, false, false, false, false] rfl rfl (any_of HT_.out (by kernel_rfl)) (fun _ _ _ h => h) (Or.inl ⟨by rfl, ?_⟩) ?_ ?_
            rotate_left
            · intro w'
              (try simp only [add_plain] at s0 s1 s2 s3 s4)
              go_simp
              with_reducible rfl
            rotate_left
            · simp only [Act.put, List.setIfInBounds_toArray, List.set_cons_zero, List.set_cons_succ, i64_w, i32_w]
              rfl
            refine pure_ (i := 6) (N := some 12) (v := ?_) (a' := ?_) #[true, true, true, true, true, true, true, false, false, false, false, false, false, false, false, false] rfl rfl (any_of HT_.out (by kernel_rfl)) (fun _ _ _ h => h) (Or.inl ⟨by rfl, ?_⟩) ?_ ?_
            rotate_left
            · intro w'
              (try simp only [add_plain] at s0 s1 s2 s3 s4)
              go_simp
              with_reducible rfl
            rotate_left
            · simp only [Act.put, List.setIfInBounds_toArray, List.set_cons_zero, List.set_cons_succ, i64_w, i32_w]
              rfl
            refine pure_ (i := 8) (N := some 14) (v := ?_) (a' := ?_) #[true, true, true, true, true, true, true, false, true, false, false, false, false, false, false, false] rfl rfl (any_of HT_.out (by kernel_rfl)) (fun _ _ _ h => h) (Or.inl ⟨by rfl, ?_⟩) ?_ ?_
            rotate_left
            · intro w'
              (try simp only [add_plain] at s0 s1 s2 s3 s4)
              go_simp
              with_reducible rfl
            rotate_left
            · simp only [Act.put, List.setIfInBounds_toArray, List.set_cons_zero, List.set_cons_succ, i64_w, i32_w]
              rfl
            refine pure_ (i := 12) (N := some 18) (v := ?_) (a' := ?_) #[true, true, true, true, true, true, true, false, true, false, false, false, true, false, false, false] rfl rfl (any_of HT_.out (by kernel_rfl)) (fun _ _ _ h => h) (Or.inl ⟨by rfl, ?_⟩) ?_ ?_
            rotate_left
            · intro w'
              (try simp only [add_plain] at s0 s1 s2 s3 s4)
              go_simp
              with_reducible rfl
            rotate_left
            · simp only [Act.put, List.setIfInBounds_toArray, List.set_cons_zero, List.set_cons_succ, i64_w, i32_w]
              rfl
            refine take_ (i := 7) (N := some 13) (v := ?_) (a' := ?_) #[true, true, true, true, true, true, true, true, true, false, false, false, true, false, false, false] rfl rfl (take_ofW HT_.out HW_.out (by kernel_rfl)) (fun _ _ _ h => h) (Or.inl ⟨by rfl, ?_⟩) hHeld ?_ ?_
            rotate_left
            · rintro w' ⟨s0, s1, s2, s3, s4⟩
              (try simp only [add_plain] at s0 s1 s2 s3 s4)
              go_simp
              with_reducible rfl
            rotate_left
            · simp only [Act.put, List.setIfInBounds_toArray, List.set_cons_zero, List.set_cons_succ, i64_w, i32_w]
              rfl
            refine pure_ (i := 9) (N := some 15) (v := ?_) (a' := ?_) #[true, true, true, true, true, true, true, true, true, true, false, false, true, false, false, false] rfl rfl (any_of HT_.out (by kernel_rfl)) (fun _ _ _ h => h) (Or.inl ⟨by rfl, ?_⟩) ?_ ?_
            rotate_left
            · intro w'
              (try simp only [add_plain] at s0 s1 s2 s3 s4)
              go_simp
              with_reducible rfl
            rotate_left
            · simp only [Act.put, List.setIfInBounds_toArray, List.set_cons_zero, List.set_cons_succ, i64_w, i32_w]
              rfl
            refine take_ (i := 10) (N := some 16) (v := ?_) (a' := ?_) #[true, true, true, true, true, true, true, true, true, true, true, false, true, false, false, false] rfl rfl (take_ofW HT_.out HW_.out (by kernel_rfl)) (fun _ _ _ h => h) (Or.inl ⟨by rfl, ?_⟩) hHeld ?_ ?_
            rotate_left
            · rintro w' ⟨s0, s1, s2, s3, s4⟩
              (try simp only [add_plain] at s0 s1 s2 s3 s4)
              go_simp
              with_reducible rfl
            rotate_left
            · simp only [Act.put, List.setIfInBounds_toArray, List.set_cons_zero, List.set_cons_succ, i64_w, i32_w]
              rfl
            refine take_ (i := 11) (N := some 17) (v := ?_) (a' := ?_) #[true, true, true, true, true, true, true, true, true, true, true, true, true, false, false, false] rfl rfl (take_ofW HT_.out HW_.out (by kernel_rfl)) (fun _ _ _ h => h) (Or.inl ⟨by rfl, ?_⟩) hHeld ?_ ?_
            rotate_left
            · rintro w' ⟨s0, s1, s2, s3, s4⟩
              (try simp only [add_plain] at s0 s1 s2 s3 s4)
              go_simp
              with_reducible rfl
            rotate_left
            · simp only [Act.put, List.setIfInBounds_toArray, List.set_cons_zero, List.set_cons_succ, i64_w, i32_w]
              rfl
            refine one_ (i := 13) (N := some 19) #[true, true, true, true, true, true, true, true, true, true, true, true, true, true, false, false] rfl rfl (one_of HT_.out (by kernel_rfl)) (by decide) (fun K hK => ?_)
            refine goes_ Try.func30 (by kernel_rfl) rfl #[.agg #[.int .i64 a0_0, .int .i64 a0_1, .int .i64 a0_2, .slice (some ad232) l0_3.length c0_3], .int .i64 a1] (by rfl) rfl rfl (by (try simp only [List.map_toArray, List.map_cons, List.map_nil]); first | done | rfl | (simp only [List.length_drop, List.length_take]; rfl)) ?_
            with_reducible refine (offertoryref09_Clamp.calls a0_0 a0_1 a0_2 _ _ l0_3 a1 t233 _ ?side1 ?side2 A6.out).mono ?_
            (case side1 => repeat (first | exact (Kd.C_below HR0_3.out HB.out) | (with_reducible refine Kd.C_alloc ?_ _) | (with_reducible refine Kd.C_drewN ?_ _) | (with_reducible refine Kd.C_drew ?_)))
            (case side2 => exact HC0_3.out)
            rintro e w11 ⟨rfl, hb⟩
            refine ⟨_, rfl, ?_⟩
            have n0_ := offertoryref09_Bin.keepB BK231 hb
            have n1_ := Aside0.mk (below_step (by repeat (first | (with_reducible first | exact HB.out | apply below_alloc | apply pw_below_drewN | apply below_drew1 | refine below_set ?_ GE231.out) | exact HB.out)) hb)
            clear BK231
            clear HB
            have BK231 := n0_
            have HB := n1_
            clear n0_ n1_
            (try clear hb)
            (try clear hb2)
            (try clear hk)
            (try clear hi)
            refine hK.out _ _ ⟨(blk_cell BK231.out 0).trans rfl, (blk_cell BK231.out 1).trans rfl, (blk_cell BK231.out 2).trans rfl, (blk_cell BK231.out 3).trans rfl, ((HB.out.cell (World.block_lt_of_cell? w _ hw232_0)).trans hw232_0)⟩ (fun hHeld => ?_)
            clear hK K
            refine norm_ (a' := ?_) ?_ ?_
            rotate_left
            · show Act.put _ (some 19) _ = _
              simp only [Act.put, List.setIfInBounds_toArray, List.set_cons_zero, List.set_cons_succ, i64_w, i32_w]
              rfl
            refine pure_ (i := 14) (N := some 20) (v := ?_) (a' := ?_) #[true, true, true, true, true, true, true, true, true, true, true, true, true, true, true, false] rfl rfl (any_of HT_.out (by kernel_rfl)) (fun _ _ _ h => h) (Or.inl ⟨by rfl, ?_⟩) ?_ ?_
            rotate_left
            · intro w'
              (try simp only [add_plain] at s0 s1 s2 s3 s4)
              go_simp
              with_reducible rfl
            rotate_left
            · simp only [Act.put, List.setIfInBounds_toArray, List.set_cons_zero, List.set_cons_succ, i64_w, i32_w]
              rfl
            refine pure_ (i := 15) (N := some 21) (v := ?_) (a' := ?_) #[true, true, true, true, true, true, true, true, true, true, true, true, true, true, true, true] rfl rfl (any_of HT_.out (by kernel_rfl)) (fun _ _ _ h => h) (Or.inl ⟨by rfl, ?_⟩) ?_ ?_
            rotate_left
            · intro w'
              (try simp only [add_plain] at s0 s1 s2 s3 s4)
              go_simp
              with_reducible rfl
            rotate_left
            · simp only [Act.put, List.setIfInBounds_toArray, List.set_cons_zero, List.set_cons_succ, i64_w, i32_w]
              rfl
            refine done_ (done_of HT_.out (by kernel_rfl)) ?_
            try go_wp2
            go_ret
            exact ⟨by first | rfl | (simp [errW_none, errW_some] <;> rfl) | (simp [*, errW_none, errW_some] <;> rfl), by repeat (first | (with_reducible first | exact HB.out | apply below_alloc | apply pw_below_drewN | apply below_drew1 | refine below_set ?_ GE231.out) | exact HB.out)⟩
        · rw [if_neg c5] at H
          exact absurd H (by simp)
      · rw [if_neg c4] at H
        have c4b0 : decide (x5_1 < (l0_3.length : Int)) = false := decide_eq_false c4
        clear c4
        obtain rfl := Option.some.inj H
        try go_wp2
        have n0_ := Aside0.mk (blk_drew BK231.out)
        have n1_ := Aside0.mk (below_drew1 HB.out)
        clear BK231
        clear HB
        have BK231 := n0_
        have HB := n1_
        clear n0_ n1_
        refine start_ (n := 16) (S := fun w' => w'.cell? ⟨gb231, 0, none⟩ = some (.int .i64 a0_0) ∧ w'.cell? ⟨gb231, 1, none⟩ = some (.int .i64 a0_1) ∧ w'.cell? ⟨gb231, 2, none⟩ = some (.int .i64 a0_2) ∧ w'.cell? ⟨gb231, 3, none⟩ = some (.slice A0_3 l0_3.length c0_3)) (ds := []) #[false, false, false, false, false, false, false, false, false, false, false, false, false, false, false, false] (by kernel_rfl) rfl rfl ⟨(blk_cell BK231.out 0).trans rfl, (blk_cell BK231.out 1).trans rfl, (blk_cell BK231.out 2).trans rfl, (blk_cell BK231.out 3).trans rfl⟩ (fun hHeld => ?_); refine with_tabW offertoryref09_Bin.tab2 offertoryref09_Bin.bits2 (fun HT_ HW_ => ?_)
        generalize wr.drew = w12 at BK231 HB hHeld ⊢
        refine pure_ (i := 0) (N := some 6) (v := ?_) (a' := ?_) #[true, false, false, false, false, false, false, false, false, false, false, false, false, false, false, false] rfl rfl (any_of HT_.out (by kernel_rfl)) (fun _ _ _ h => h) (Or.inl ⟨by rfl, ?_⟩) ?_ ?_
        rotate_left
        · intro w'
          (try simp only [add_plain] at s0 s1 s2 s3)
          go_simp
          with_reducible rfl
        rotate_left
        · simp only [Act.put, List.setIfInBounds_toArray, List.set_cons_zero, List.set_cons_succ, i64_w, i32_w]
          rfl
        refine pure_ (i := 1) (N := some 7) (v := ?_) (a' := ?_) #[true, true, false, false, false, false, false, false, false, false, false, false, false, false, false, false] rfl rfl (any_of HT_.out (by kernel_rfl)) (fun _ _ _ h => h) (Or.inl ⟨by rfl, ?_⟩) ?_ ?_
        rotate_left
        · intro w'
          (try simp only [add_plain] at s0 s1 s2 s3)
          go_simp
          with_reducible rfl
        rotate_left
        · simp only [Act.put, List.setIfInBounds_toArray, List.set_cons_zero, List.set_cons_succ, i64_w, i32_w]
          rfl
        refine take_ (i := 2) (N := some 8) (v := ?_) (a' := ?_) #[true, true, true, false, false, false, false, false, false, false, false, false, false, false, false, false] rfl rfl (take_ofW HT_.out HW_.out (by kernel_rfl)) (fun _ _ _ h => h) (Or.inl ⟨by rfl, ?_⟩) hHeld ?_ ?_
        rotate_left
        · rintro w' ⟨s0, s1, s2, s3⟩
          (try simp only [add_plain] at s0 s1 s2 s3)
          go_simp
          with_reducible rfl
        rotate_left
        · simp only [Act.put, List.setIfInBounds_toArray, List.set_cons_zero, List.set_cons_succ, i64_w, i32_w]
          rfl
        refine pure_ (i := 3) (N := some 9) (v := ?_) (a' := ?_) #[true, true, true, true, false, false, false, false, false, false, false, false, false, false, false, false] rfl rfl (any_of HT_.out (by kernel_rfl)) (fun _ _ _ h => h) (Or.inl ⟨by rfl, ?_⟩) ?_ ?_
        rotate_left
        · intro w'
          (try simp only [add_plain] at s0 s1 s2 s3)
          go_simp
          with_reducible rfl
        rotate_left
        · simp only [Act.put, List.setIfInBounds_toArray, List.set_cons_zero, List.set_cons_succ, i64_w, i32_w]
          rfl
        refine pure_ (i := 4) (N := some 10) (v := ?_) (a' := ?_) #[true, true, true, true, true, false, false, false, false, false, false, false, false, false, false, false] rfl rfl (any_of HT_.out (by kernel_rfl)) (fun _ _ _ h => h) (Or.inl ⟨by rfl, ?_⟩) ?_ ?_
        rotate_left
        · intro w'
          (try simp only [add_plain] at s0 s1 s2 s3)
          go_simp
          with_reducible rfl
        rotate_left
        · simp only [Act.put, List.setIfInBounds_toArray, List.set_cons_zero, List.set_cons_succ, i64_w, i32_w]
          rfl
        refine pure_ (i := 5) (N := some 11) (v := ?_) (a' := ?_) #[true, true, true, true, true, true, false, false, false, false, false, false, false, false, false, false] rfl rfl (any_of HT_.out (by kernel_rfl)) (fun _ _ _ h => h) (Or.inl ⟨by rfl, ?_⟩) ?_ ?_
        rotate_left
        · intro w'
          (try simp only [add_plain] at s0 s1 s2 s3)
          go_simp
          with_reducible rfl
        rotate_left
        · simp only [Act.put, List.setIfInBounds_toArray, List.set_cons_zero, List.set_cons_succ, i64_w, i32_w]
          rfl
        refine pure_ (i := 6) (N := some 12) (v := undef) (a' := ?_) #[true, true, true, true, true, true, true, false, false, false, false, false, false, false, false, false] rfl rfl (any_of HT_.out (by kernel_rfl)) (fun _ _ _ h => h) (Or.inr ⟨by rfl, rfl⟩) ?_ ?_
        rotate_left
        · simp only [Act.put, List.setIfInBounds_toArray, List.set_cons_zero, List.set_cons_succ, i64_w, i32_w]
          rfl
        refine pure_ (i := 7) (N := some 13) (v := undef) (a' := ?_) #[true, true, true, true, true, true, true, true, false, false, false, false, false, false, false, false] rfl rfl (any_of HT_.out (by kernel_rfl)) (fun _ _ _ h => h) (Or.inr ⟨by rfl, rfl⟩) ?_ ?_
        rotate_left
        · simp only [Act.put, List.setIfInBounds_toArray, List.set_cons_zero, List.set_cons_succ, i64_w, i32_w]
          rfl
        refine pure_ (i := 8) (N := some 14) (v := undef) (a' := ?_) #[true, true, true, true, true, true, true, true, true, false, false, false, false, false, false, false] rfl rfl (any_of HT_.out (by kernel_rfl)) (fun _ _ _ h => h) (Or.inr ⟨by rfl, rfl⟩) ?_ ?_
        rotate_left
        · simp only [Act.put, List.setIfInBounds_toArray, List.set_cons_zero, List.set_cons_succ, i64_w, i32_w]
          rfl
        refine pure_ (i := 9) (N := some 15) (v := undef) (a' := ?_) #[true, true, true, true, true, true, true, true, true, true, false, false, false, false, false, false] rfl rfl (any_of HT_.out (by kernel_rfl)) (fun _ _ _ h => h) (Or.inr ⟨by rfl, rfl⟩) ?_ ?_
        rotate_left
        · simp only [Act.put, List.setIfInBounds_toArray, List.set_cons_zero, List.set_cons_succ, i64_w, i32_w]
          rfl
        refine pure_ (i := 10) (N := some 16) (v := undef) (a' := ?_) #[true, true, true, true, true, true, true, true, true, true, true, false, false, false, false, false] rfl rfl (any_of HT_.out (by kernel_rfl)) (fun _ _ _ h => h) (Or.inr ⟨by rfl, rfl⟩) ?_ ?_
        rotate_left
        · simp only [Act.put, List.setIfInBounds_toArray, List.set_cons_zero, List.set_cons_succ, i64_w, i32_w]
          rfl
        refine pure_ (i := 11) (N := some 17) (v := undef) (a' := ?_) #[true, true, true, true, true, true, true, true, true, true, true, true, false, false, false, false] rfl rfl (any_of HT_.out (by kernel_rfl)) (fun _ _ _ h => h) (Or.inr ⟨by rfl, rfl⟩) ?_ ?_
        rotate_left
        · simp only [Act.put, List.setIfInBounds_toArray, List.set_cons_zero, List.set_cons_succ, i64_w, i32_w]
          rfl
        refine pure_ (i := 12) (N := some 18) (v := undef) (a' := ?_) #[true, true, true, true, true, true, true, true, true, true, true, true, true, false, false, false] rfl rfl (any_of HT_.out (by kernel_rfl)) (fun _ _ _ h => h) (Or.inr ⟨by rfl, rfl⟩) ?_ ?_
        rotate_left
        · simp only [Act.put, List.setIfInBounds_toArray, List.set_cons_zero, List.set_cons_succ, i64_w, i32_w]
          rfl
        refine pure_ (i := 13) (N := some 19) (v := undef) (a' := ?_) #[true, true, true, true, true, true, true, true, true, true, true, true, true, true, false, false] rfl rfl (any_of HT_.out (by kernel_rfl)) (fun _ _ _ h => h) (Or.inr ⟨by rfl, rfl⟩) ?_ ?_
        rotate_left
        · simp only [Act.put, List.setIfInBounds_toArray, List.set_cons_zero, List.set_cons_succ, i64_w, i32_w]
          rfl
        refine pure_ (i := 14) (N := some 20) (v := undef) (a' := ?_) #[true, true, true, true, true, true, true, true, true, true, true, true, true, true, true, false] rfl rfl (any_of HT_.out (by kernel_rfl)) (fun _ _ _ h => h) (Or.inr ⟨by rfl, rfl⟩) ?_ ?_
        rotate_left
        · simp only [Act.put, List.setIfInBounds_toArray, List.set_cons_zero, List.set_cons_succ, i64_w, i32_w]
          rfl
        refine pure_ (i := 15) (N := some 21) (v := ?_) (a' := ?_) #[true, true, true, true, true, true, true, true, true, true, true, true, true, true, true, true] rfl rfl (any_of HT_.out (by kernel_rfl)) (fun _ _ _ h => h) (Or.inl ⟨by rfl, ?_⟩) ?_ ?_
        rotate_left
        · intro w'
          (try simp only [add_plain] at s0 s1 s2 s3)
          go_simp
          with_reducible rfl
        rotate_left
        · simp only [Act.put, List.setIfInBounds_toArray, List.set_cons_zero, List.set_cons_succ, i64_w, i32_w]
          rfl
        refine done_ (done_of HT_.out (by kernel_rfl)) ?_
        try go_wp2
        go_ret
        exact ⟨by first | rfl | (simp [errW_none, errW_some] <;> rfl) | (simp [*, errW_none, errW_some] <;> rfl), by repeat (first | (with_reducible first | exact HB.out | apply below_alloc | apply pw_below_drewN | apply below_drew1 | refine below_set ?_ GE231.out) | exact HB.out)⟩

/-! ### offertoryref09_Of: function 18 -/
def offertoryref09_Of.f (a0_0 a0_1 : Int) : Option (Int × Int × Int × Int × Int × Int × Int × Int) :=
  if (0 ≤ a0_0 ∧ a0_0 ≤ 18446744073709551615) ∧ (0 ≤ a0_1 ∧ a0_1 ≤ 18446744073709551615) then some (digs (a0_1 + a0_0 * 18446744073709551616)) else none
set_option maxHeartbeats 800000 in
set_option maxRecDepth 100000 in
theorem offertoryref09_Of.calls (a0_0 a0_1 r1 r2 r3 r4 r5 r6 r7 r8 : Int) (w : World) (h : offertoryref09_Of.f a0_0 a0_1 = some (r1, r2, r3, r4, r5, r6, r7, r8)) :
    Calls Try.prog 18 #[.agg #[.int .u64 a0_0, .int .u64 a0_1]] w fun e w' => e = .returned (.agg #[.int .u32 r1, .int .u32 r2, .int .u32 r3, .int .u32 r4, .int .u32 r5, .int .u32 r6, .int .u32 r7, .int .u32 r8]) ∧ Below w.heap.size w w' := by
  unfold offertoryref09_Of.f at h
  split at h
  case isFalse => cases h
  rename_i hr
  have H := Aside0.mk h
  clear h
  obtain ⟨⟨h0, h1⟩, l0, l1⟩ := hr
  have hu29 := Try.underlying45
  have hu25 := Try.underlying27
  go_enter Try.func18, Try.ntmps18
  go_wp2
  refine wp_loop_rounds 5 ?_
  rw [rounds_succ]
  go_wp2
  rw [rounds_succ]
  go_wp2
  rw [rounds_succ]
  go_wp2
  rw [rounds_succ]
  go_wp2
  rw [rounds_succ]
  go_wp2
  refine bodyPost_ret (v := .agg #[.int .u32 (bits .and .u64 a0_1 65535 % 4294967296), .int .u32 (bits .and .u64 (a0_1 / 65536) 65535 % 4294967296), .int .u32 (bits .and .u64 (a0_1 / 4294967296) 65535 % 4294967296), .int .u32 (bits .and .u64 (a0_1 / 281474976710656) 65535 % 4294967296), .int .u32 (bits .and .u64 a0_0 65535 % 4294967296), .int .u32 (bits .and .u64 (a0_0 / 65536) 65535 % 4294967296), .int .u32 (bits .and .u64 (a0_0 / 4294967296) 65535 % 4294967296), .int .u32 (bits .and .u64 (a0_0 / 281474976710656) 65535 % 4294967296)]) (by simp [results, Try.results18, go_sem]) rfl ⟨?_, ?_⟩
  · have h := H.out
    simp only [Option.some.injEq, digs, Prod.mk.injEq] at h
    obtain ⟨rfl, rfl, rfl, rfl, rfl, rfl, rfl, rfl⟩ := h
    have e0 : bits .and .u64 a0_1 65535 % 4294967296 = bigD (a0_1 + a0_0 * 18446744073709551616) 0 := by rw [and_65535 (by omega) (by omega)]; simp only [bigD]; omega
    have e1 : bits .and .u64 (a0_1 / 65536) 65535 % 4294967296 = bigD (a0_1 + a0_0 * 18446744073709551616) 1 := by rw [and_65535 (by omega) (by omega)]; simp only [bigD]; omega
    have e2 : bits .and .u64 (a0_1 / 4294967296) 65535 % 4294967296 = bigD (a0_1 + a0_0 * 18446744073709551616) 2 := by rw [and_65535 (by omega) (by omega)]; simp only [bigD]; omega
    have e3 : bits .and .u64 (a0_1 / 281474976710656) 65535 % 4294967296 = bigD (a0_1 + a0_0 * 18446744073709551616) 3 := by rw [and_65535 (by omega) (by omega)]; simp only [bigD]; omega
    have e4 : bits .and .u64 a0_0 65535 % 4294967296 = bigD (a0_1 + a0_0 * 18446744073709551616) 4 := by rw [and_65535 (by omega) (by omega)]; simp only [bigD]; omega
    have e5 : bits .and .u64 (a0_0 / 65536) 65535 % 4294967296 = bigD (a0_1 + a0_0 * 18446744073709551616) 5 := by rw [and_65535 (by omega) (by omega)]; simp only [bigD]; omega
    have e6 : bits .and .u64 (a0_0 / 4294967296) 65535 % 4294967296 = bigD (a0_1 + a0_0 * 18446744073709551616) 6 := by rw [and_65535 (by omega) (by omega)]; simp only [bigD]; omega
    have e7 : bits .and .u64 (a0_0 / 281474976710656) 65535 % 4294967296 = bigD (a0_1 + a0_0 * 18446744073709551616) 7 := by rw [and_65535 (by omega) (by omega)]; simp only [bigD]; omega
    rw [e0, e1, e2, e3, e4, e5, e6, e7]
  · repeat (first | (with_reducible exact Below.refl _ _) | apply below_alloc)


/-! ### offertoryref09_Int: function 29 -/
def offertoryref09_Int.f (a0 : Int) : Option (Int × Int × Int × Int × Int × Int × Int × Int) :=
  if -9223372036854775808 ≤ a0 ∧ a0 ≤ 9223372036854775807 then some (digs a0) else none
set_option maxHeartbeats 1600000 in
set_option maxRecDepth 100000 in
theorem offertoryref09_Int.calls (a0 r1 r2 r3 r4 r5 r6 r7 r8 : Int) (w : World) (h : offertoryref09_Int.f a0 = some (r1, r2, r3, r4, r5, r6, r7, r8)) :
    Calls Try.prog 29 #[.int .i64 a0] w fun e w' => e = .returned (.agg #[.int .u32 r1, .int .u32 r2, .int .u32 r3, .int .u32 r4, .int .u32 r5, .int .u32 r6, .int .u32 r7, .int .u32 r8]) ∧ Below w.heap.size w w' := by
  unfold offertoryref09_Int.f at h
  split at h
  case isFalse => cases h
  rename_i hr
  simp only [Option.some.injEq, digs, Prod.mk.injEq] at h
  have H := Aside0.mk h
  clear h
  have hu29 := Try.underlying45
  have hu25 := Try.underlying27
  by_cases hn : a0 < 0
  · have hof : offertoryref09_Of.f 0 (a0 + 18446744073709551616) = some (bigD (a0 + 18446744073709551616) 0, bigD (a0 + 18446744073709551616) 1, bigD (a0 + 18446744073709551616) 2, bigD (a0 + 18446744073709551616) 3, 0, 0, 0, 0) := by
      have y4 : bigD (a0 + 18446744073709551616) 4 = 0 := by simp only [bigD]; omega
      have y5 : bigD (a0 + 18446744073709551616) 5 = 0 := by simp only [bigD]; omega
      have y6 : bigD (a0 + 18446744073709551616) 6 = 0 := by simp only [bigD]; omega
      have y7 : bigD (a0 + 18446744073709551616) 7 = 0 := by simp only [bigD]; omega
      unfold offertoryref09_Of.f
      rw [if_pos (by omega)]
      simp only [digs, Int.zero_mul, Int.add_zero, y4, y5, y6, y7]
    have hw : IntKind.u64.wrap a0 = a0 + 18446744073709551616 := by rw [IntKind.wrap_u64]; omega
    obtain ⟨rfl, rfl, rfl, rfl, rfl, rfl, rfl, rfl⟩ := H.out
    have z0 : bigD a0 0 = bigD (a0 + 18446744073709551616) 0 := by simp only [bigD]; omega
    have z1 : bigD a0 1 = bigD (a0 + 18446744073709551616) 1 := by simp only [bigD]; omega
    have z2 : bigD a0 2 = bigD (a0 + 18446744073709551616) 2 := by simp only [bigD]; omega
    have z3 : bigD a0 3 = bigD (a0 + 18446744073709551616) 3 := by simp only [bigD]; omega
    have z4 : bigD a0 4 = 65535 := by simp only [bigD]; omega
    have z5 : bigD a0 5 = 65535 := by simp only [bigD]; omega
    have z6 : bigD a0 6 = 65535 := by simp only [bigD]; omega
    have z7 : bigD a0 7 = 65535 := by simp only [bigD]; omega
    rw [z0, z1, z2, z3, z4, z5, z6, z7]
    clear z0 z1 z2 z3 z4 z5 z6 z7
    have HOF := Aside0.mk hof
    have t1 : decide (a0 < 0) = true := decide_eq_true hn
    clear hof H
    go_enter Try.func29, Try.ntmps29
    go_wp2_with fail
    go_at_call 18
    refine (offertoryref09_Of.calls 0 (a0 + 18446744073709551616) _ _ _ _ _ _ _ _ _ HOF.out).mono ?_
    rintro e w' ⟨rfl, hb⟩
    have hR : ArrAt w' w.heap.size 45 .u32 [0, 0, 0, 0, 0, 0, 0, 0] := ArrAt.below (blk_new w (.cells (nums .u32 [0, 0, 0, 0, 0, 0, 0, 0]).toArray 45)) hb
    have HB := Aside0.mk (below_step (w := w) (by repeat (first | (with_reducible exact Below.refl _ _) | apply below_alloc)) hb)
    have HR := Aside0.mk hR
    have hz : w.heap.size < w'.heap.size := by have := hb.size; rw [alloc_size] at this; omega
    have d0 := hR.get 0 (by decide)
    have f0 := hR.frz 0
    have d1 := hR.get 1 (by decide)
    have f1 := hR.frz 1
    have d2 := hR.get 2 (by decide)
    have f2 := hR.frz 2
    have d3 := hR.get 3 (by decide)
    have f3 := hR.frz 3
    have d4 := hR.get 4 (by decide)
    have f4 := hR.frz 4
    have d5 := hR.get 5 (by decide)
    have f5 := hR.frz 5
    have d6 := hR.get 6 (by decide)
    have f6 := hR.frz 6
    have d7 := hR.get 7 (by decide)
    have f7 := hR.frz 7
    clear hb hR
    go_wp2
    refine wp_loop_rounds 5 ?_
    rw [rounds_succ]
    go_wp2
    rw [rounds_succ]
    go_wp2
    rw [rounds_succ]
    go_wp2
    rw [rounds_succ]
    go_wp2
    rw [rounds_succ]
    go_wp2
    have hp := (HR.out.put8 [bigD (a0 + 18446744073709551616) 0, bigD (a0 + 18446744073709551616) 1, bigD (a0 + 18446744073709551616) 2, bigD (a0 + 18446744073709551616) 3, 65535, 65535, 65535, 65535] rfl rfl).alloc (.cells #[.int .u32 (bigD (a0 + 18446744073709551616) 0), .int .u32 (bigD (a0 + 18446744073709551616) 1), .int .u32 (bigD (a0 + 18446744073709551616) 2), .int .u32 (bigD (a0 + 18446744073709551616) 3), .int .u32 65535, .int .u32 65535, .int .u32 65535, .int .u32 65535] 45)
    refine bodyPost_ret (results_cell_row rfl _ _ w.heap.size 45 (nums .u32 [bigD (a0 + 18446744073709551616) 0, bigD (a0 + 18446744073709551616) 1, bigD (a0 + 18446744073709551616) 2, bigD (a0 + 18446744073709551616) 3, 65535, 65535, 65535, 65535]).toArray (0, 0) _ rfl hp Try.underlying45 rfl (by kernel_rfl)) rfl ⟨rfl, ?_⟩
    repeat (first | (with_reducible exact HB.out) | (with_reducible refine below_alloc ?_ _) | (with_reducible refine below_set ?_ (by omega)))
  · have hof : offertoryref09_Of.f 0 a0 = some (r1, r2, r3, r4, r5, r6, r7, r8) := by
      unfold offertoryref09_Of.f
      rw [if_pos (by omega)]
      simp only [Int.zero_mul, Int.add_zero, digs, H.out]
    have hw : IntKind.u64.wrap a0 = a0 := by rw [IntKind.wrap_u64]; omega
    have HOF := Aside0.mk hof
    have t1 : decide (a0 < 0) = false := decide_eq_false hn
    clear hof H
    go_enter Try.func29, Try.ntmps29
    go_wp2_with fail
    go_at_call 18
    refine (offertoryref09_Of.calls 0 a0 _ _ _ _ _ _ _ _ _ HOF.out).mono ?_
    rintro e w' ⟨rfl, hb⟩
    have hR : ArrAt w' w.heap.size 45 .u32 [0, 0, 0, 0, 0, 0, 0, 0] := ArrAt.below (blk_new w (.cells (nums .u32 [0, 0, 0, 0, 0, 0, 0, 0]).toArray 45)) hb
    have HB := Aside0.mk (below_step (w := w) (by repeat (first | (with_reducible exact Below.refl _ _) | apply below_alloc)) hb)
    have HR := Aside0.mk hR
    have hz : w.heap.size < w'.heap.size := by have := hb.size; rw [alloc_size] at this; omega
    have d0 := hR.get 0 (by decide)
    have f0 := hR.frz 0
    have d1 := hR.get 1 (by decide)
    have f1 := hR.frz 1
    have d2 := hR.get 2 (by decide)
    have f2 := hR.frz 2
    have d3 := hR.get 3 (by decide)
    have f3 := hR.frz 3
    have d4 := hR.get 4 (by decide)
    have f4 := hR.frz 4
    have d5 := hR.get 5 (by decide)
    have f5 := hR.frz 5
    have d6 := hR.get 6 (by decide)
    have f6 := hR.frz 6
    have d7 := hR.get 7 (by decide)
    have f7 := hR.frz 7
    clear hb hR
    go_wp2
    refine wp_loop_rounds 1 ?_
    rw [rounds_succ]
    go_wp2
    have hp := (HR.out.put8 [r1, r2, r3, r4, r5, r6, r7, r8] rfl rfl).alloc (.cells #[.int .u32 r1, .int .u32 r2, .int .u32 r3, .int .u32 r4, .int .u32 r5, .int .u32 r6, .int .u32 r7, .int .u32 r8] 45)
    refine bodyPost_ret (results_cell_row rfl _ _ w.heap.size 45 (nums .u32 [r1, r2, r3, r4, r5, r6, r7, r8]).toArray (0, 0) _ rfl hp Try.underlying45 rfl (by kernel_rfl)) rfl ⟨rfl, ?_⟩
    repeat (first | (with_reducible exact HB.out) | (with_reducible refine below_alloc ?_ _) | (with_reducible refine below_set ?_ (by omega)))


/-! ### offertoryref09_Neg: function 47 -/
def offertoryref09_Neg.f (a0_0 a0_1 a0_2 a0_3 a0_4 a0_5 a0_6 a0_7 : Int) : Option (Int × Int × Int × Int × Int × Int × Int × Int) :=
  if Dig a0_0 a0_1 a0_2 a0_3 a0_4 a0_5 a0_6 a0_7 then some (digs (340282366920938463463374607431768211456 - bigV a0_0 a0_1 a0_2 a0_3 a0_4 a0_5 a0_6 a0_7)) else none
set_option maxHeartbeats 1600000 in
set_option maxRecDepth 100000 in
theorem offertoryref09_Neg.calls (a0_0 a0_1 a0_2 a0_3 a0_4 a0_5 a0_6 a0_7 r1 r2 r3 r4 r5 r6 r7 r8 : Int) (w : World) (h : offertoryref09_Neg.f a0_0 a0_1 a0_2 a0_3 a0_4 a0_5 a0_6 a0_7 = some (r1, r2, r3, r4, r5, r6, r7, r8)) :
    Calls Try.prog 47 #[.agg #[.int .u32 a0_0, .int .u32 a0_1, .int .u32 a0_2, .int .u32 a0_3, .int .u32 a0_4, .int .u32 a0_5, .int .u32 a0_6, .int .u32 a0_7]] w fun e w' => e = .returned (.agg #[.int .u32 r1, .int .u32 r2, .int .u32 r3, .int .u32 r4, .int .u32 r5, .int .u32 r6, .int .u32 r7, .int .u32 r8]) ∧ Below w.heap.size w w' := by
  unfold offertoryref09_Neg.f at h
  split at h
  case isFalse => cases h
  rename_i hr
  unfold Dig at hr
  have hadd : offertoryref09_Add.f (65535 - a0_0) (65535 - a0_1) (65535 - a0_2) (65535 - a0_3) (65535 - a0_4) (65535 - a0_5) (65535 - a0_6) (65535 - a0_7) 1 0 0 0 0 0 0 0 = some (r1, r2, r3, r4, r5, r6, r7, r8) := by
    unfold offertoryref09_Add.f
    rw [if_pos ⟨by unfold Dig; omega, by unfold Dig; omega⟩]
    rw [← h]
    congr 2
    simp only [bigV]
    omega
  have HADD := Aside0.mk hadd
  clear hadd h
  obtain ⟨⟨l0, m0⟩, ⟨l1, m1⟩, ⟨l2, m2⟩, ⟨l3, m3⟩, ⟨l4, m4⟩, ⟨l5, m5⟩, ⟨l6, m6⟩, ⟨l7, m7⟩⟩ := hr
  have hu29 := Try.underlying45
  go_enter Try.func47, Try.ntmps47
  go_wp2
  refine wp_loop_rounds 9 ?_
  rw [rounds_succ]
  go_wp2
  rw [rounds_succ]
  go_wp2
  rw [rounds_succ]
  go_wp2
  rw [rounds_succ]
  go_wp2
  rw [rounds_succ]
  go_wp2
  rw [rounds_succ]
  go_wp2
  rw [rounds_succ]
  go_wp2
  rw [rounds_succ]
  go_wp2
  rw [rounds_succ]
  go_wp2_with fail
  go_at_call 31
  refine (offertoryref09_Add.calls (65535 - a0_0) (65535 - a0_1) (65535 - a0_2) (65535 - a0_3) (65535 - a0_4) (65535 - a0_5) (65535 - a0_6) (65535 - a0_7) 1 0 0 0 0 0 0 0 r1 r2 r3 r4 r5 r6 r7 r8 _ HADD.out).mono ?_
  rintro e w' ⟨rfl, hb⟩
  have hR : ArrAt w' (w.heap.size + 1) 45 .u32 [0, 0, 0, 0, 0, 0, 0, 0] := by
    refine ArrAt.below ?_ hb
    have h := blk_new (w.alloc (.cells #[.int .u32 (65535 - a0_0), .int .u32 (65535 - a0_1), .int .u32 (65535 - a0_2), .int .u32 (65535 - a0_3), .int .u32 (65535 - a0_4), .int .u32 (65535 - a0_5), .int .u32 (65535 - a0_6), .int .u32 (65535 - a0_7)] 45)) (.cells (nums .u32 [0, 0, 0, 0, 0, 0, 0, 0]).toArray 45)
    rw [alloc_size] at h
    exact h
  have HB := Aside0.mk (below_step (w := w) (by repeat (first | (with_reducible exact Below.refl _ _) | apply below_alloc | apply below_drew)) hb)
  have HR := Aside0.mk hR
  have d0 := hR.get 0 (by decide)
  have f0 := hR.frz 0
  have d1 := hR.get 1 (by decide)
  have f1 := hR.frz 1
  have d2 := hR.get 2 (by decide)
  have f2 := hR.frz 2
  have d3 := hR.get 3 (by decide)
  have f3 := hR.frz 3
  have d4 := hR.get 4 (by decide)
  have f4 := hR.frz 4
  have d5 := hR.get 5 (by decide)
  have f5 := hR.frz 5
  have d6 := hR.get 6 (by decide)
  have f6 := hR.frz 6
  have d7 := hR.get 7 (by decide)
  have f7 := hR.frz 7
  clear hb hR
  go_wp2
  have hp := HR.out.put8 [r1, r2, r3, r4, r5, r6, r7, r8] rfl rfl
  refine bodyPost_ret (results_cell_row rfl _ _ (w.heap.size + 1) 45 (nums .u32 [r1, r2, r3, r4, r5, r6, r7, r8]).toArray (0, 0) _ rfl hp Try.underlying45 rfl (by kernel_rfl)) rfl ⟨rfl, ?_⟩
  repeat (first | (with_reducible exact HB.out) | (refine below_set ?_ (by omega)))


theorem offertoryref09_Signed.keepB {W0 W w1 : World} {g : Nat} {o : Obj} (h : Aside0 (W0.heap[g]? = some o)) (hb : Below W.heap.size W w1) (hs : W0.heap[g]? = some o → W.heap[g]? = some o := by intro h_; (with_reducible repeat (first | refine blk_drewN ?_ _ | refine blk_drew ?_ | refine blk_alloc ?_ _)); exact h_) : Aside0 (w1.heap[g]? = some o) := ⟨(hb.block g (blk_lt (hs h.out))).trans (hs h.out)⟩
theorem offertoryref09_Signed.neL {W0 W : World} {g gb : Nat} {o : Obj} (h : Aside0 (W0.heap[g]? = some o)) (hg : gb = W.heap.size) (hs : W0.heap[g]? = some o → W.heap[g]? = some o := by intro h_; (with_reducible repeat (first | refine blk_drewN ?_ _ | refine blk_drew ?_ | refine blk_alloc ?_ _)); exact h_) : Aside0 (g ≠ gb) := ⟨by rw [hg]; exact Nat.ne_of_lt (blk_lt (hs h.out))⟩
theorem offertoryref09_Signed.neG {W0 W : World} {g gb : Nat} {o : Obj} (h : Aside0 (W0.heap[g]? = some o)) (hg : gb = W.heap.size) (hs : W0.heap[g]? = some o → W.heap[g]? = some o := by intro h_; (with_reducible repeat (first | refine blk_drewN ?_ _ | refine blk_drew ?_ | refine blk_alloc ?_ _)); exact h_) : Aside0 (gb ≠ g) := ⟨by rw [hg]; exact Nat.ne_of_gt (blk_lt (hs h.out))⟩
/-! ### offertoryref09_Signed: function 32 -/
def offertoryref09_Signed.f (a0_0 : Int) (a0_1 : Int) (a0_2 : Int) (a0_3 : Int) (a0_4 : Int) (a0_5 : Int) (a0_6 : Int) (a0_7 : Int) : Option (Int × Int × Int × Int × Int × Int × Int × Int × Bool) := if a0_7 ≥ 32768 then ((offertoryref09_Neg.f a0_0 a0_1 a0_2 a0_3 a0_4 a0_5 a0_6 a0_7).bind fun bt236 => (some (bt236.1, bt236.2.1, bt236.2.2.1, bt236.2.2.2.1, bt236.2.2.2.2.1, bt236.2.2.2.2.2.1, bt236.2.2.2.2.2.2.1, bt236.2.2.2.2.2.2.2, true))) else (some (a0_0, a0_1, a0_2, a0_3, a0_4, a0_5, a0_6, a0_7, false))
set_option maxHeartbeats 8000000 in
set_option maxRecDepth 100000 in
theorem offertoryref09_Signed.calls (a0_0 : Int) (a0_1 : Int) (a0_2 : Int) (a0_3 : Int) (a0_4 : Int) (a0_5 : Int) (a0_6 : Int) (a0_7 : Int) (r1 : Int) (r2 : Int) (r3 : Int) (r4 : Int) (r5 : Int) (r6 : Int) (r7 : Int) (r8 : Int) (r9 : Bool) (w : World) (h : offertoryref09_Signed.f a0_0 a0_1 a0_2 a0_3 a0_4 a0_5 a0_6 a0_7 = some (r1, r2, r3, r4, r5, r6, r7, r8, r9)) :
    Calls Try.prog 32 #[.agg #[.int .u32 a0_0, .int .u32 a0_1, .int .u32 a0_2, .int .u32 a0_3, .int .u32 a0_4, .int .u32 a0_5, .int .u32 a0_6, .int .u32 a0_7]] w fun e w' => e = .returned (.tuple #[.agg #[.int .u32 r1, .int .u32 r2, .int .u32 r3, .int .u32 r4, .int .u32 r5, .int .u32 r6, .int .u32 r7, .int .u32 r8], .bool r9]) ∧ Below w.heap.size w w' := by
  have hu45 := Try.underlying45
  have HB := Aside0.mk (Below.refl w.heap.size w)
  have H : (if a0_7 ≥ 32768 then ((offertoryref09_Neg.f a0_0 a0_1 a0_2 a0_3 a0_4 a0_5 a0_6 a0_7).bind fun bt236 => (some (bt236.1, bt236.2.1, bt236.2.2.1, bt236.2.2.2.1, bt236.2.2.2.2.1, bt236.2.2.2.2.2.1, bt236.2.2.2.2.2.2.1, bt236.2.2.2.2.2.2.2, true))) else (some (a0_0, a0_1, a0_2, a0_3, a0_4, a0_5, a0_6, a0_7, false))) = some (r1, r2, r3, r4, r5, r6, r7, r8, r9) := h
  clear h
  by_cases c2 : a0_7 ≥ 32768
  · rw [if_pos c2] at H
    have c2b0 : decide (32768 ≤ a0_7) = true := decide_eq_true c2
    clear c2
    replace H := Option.bind_eq_some_iff.mp H
    obtain ⟨⟨t236, t237, t238, t239, t240, t241, t242, t243⟩, A30, H⟩ := H
    replace H : (some (t236, t237, t238, t239, t240, t241, t242, t243, true)) = some (r1, r2, r3, r4, r5, r6, r7, r8, r9) := H
    have A3 := Aside0.mk A30
    clear A30
    simp only [Option.some.injEq, Prod.mk.injEq] at H
    obtain ⟨rfl, rfl, rfl, rfl, rfl, rfl, rfl, rfl, rfl⟩ := H
    go_enter Try.func32, Try.ntmps32
    go_wp2_with (first | ((with_reducible refine gate_dst (N := 1) rfl ?_); refine box_event ?hg (N := 1) ?hd (cs := #[.int .u32 a0_0, .int .u32 a0_1, .int .u32 a0_2, .int .u32 a0_3, .int .u32 a0_4, .int .u32 a0_5, .int .u32 a0_6, .int .u32 a0_7]) (t := 45) ?hr ?_; (case hd => rfl); (case hg => rfl); (case hr => first | (go_simp; done) | (go_simp; rfl)); intro gb234 hg w4 hbox hb; have n0_ := Aside0.mk (below_step (by repeat (first | (with_reducible first | exact HB.out | apply below_alloc | apply pw_below_drewN | apply below_drew1) | exact HB.out)) hb); have n1_ := Aside0.mk (hbox); have n2_ := Aside0.mk ((by rw [hg]; exact (below_size (by repeat (first | (with_reducible first | exact HB.out | apply below_alloc | apply pw_below_drewN | apply below_drew1) | exact HB.out))) : w.heap.size ≤ gb234)); have n3_ := Aside0.mk ((by rw [hg]; exact (below_size (by repeat (first | (with_reducible first | exact HB.out | apply below_alloc | apply pw_below_drewN | apply below_drew1) | exact HB.out))) : w.heap.size ≤ gb234)); clear HB; have HB := n0_; have BK234 := n1_; have GW234 := n2_; have GE234 := n3_; clear n0_ n1_ n2_ n3_; clear hb hbox hg) | ((with_reducible refine gate_dst (N := 2) rfl ?_); refine box_event ?hg (N := 2) ?hd (cs := #[.int .u32 0, .int .u32 0, .int .u32 0, .int .u32 0, .int .u32 0, .int .u32 0, .int .u32 0, .int .u32 0]) (t := 45) ?hr ?_; (case hd => rfl); (case hg => rfl); (case hr => first | (go_simp; done) | (go_simp; rfl)); intro gb235 hg w5 hbox hb; have n0_ := offertoryref09_Signed.keepB BK234 hb; have n1_ := Aside0.mk (below_step (by repeat (first | (with_reducible first | exact HB.out | apply below_alloc | apply pw_below_drewN | apply below_drew1 | refine below_set ?_ GE234.out) | exact HB.out)) hb); have n2_ := Aside0.mk (hbox); have n3_ := Aside0.mk ((by rw [hg]; exact (below_size (by repeat (first | (with_reducible first | exact HB.out | apply below_alloc | apply pw_below_drewN | apply below_drew1 | refine below_set ?_ GE234.out) | exact HB.out))) : w.heap.size ≤ gb235)); have n4_ := Aside0.mk ((by rw [hg]; exact (below_size (by repeat (first | (with_reducible first | exact HB.out | apply below_alloc | apply pw_below_drewN | apply below_drew1 | refine below_set ?_ GE234.out) | exact HB.out))) : w.heap.size ≤ gb235)); have n5_ := offertoryref09_Signed.neL BK234 hg; have n6_ := offertoryref09_Signed.neG BK234 hg; clear BK234; clear HB; have BK234 := n0_; have HB := n1_; have BK235 := n2_; have GW235 := n3_; have GE235 := n4_; have NB234_235 := n5_; have NB235_234 := n6_; clear n0_ n1_ n2_ n3_ n4_ n5_ n6_; clear hb hbox hg; have hnb6 := NB234_235.out; have hnc6 := NB235_234.out; have hcz7_0 : w5.cell? ⟨gb234, 0, none⟩ = some (.int .u32 a0_0) := (blk_cell BK234.out 0).trans rfl; have hcz7_1 : w5.cell? ⟨gb234, 1, none⟩ = some (.int .u32 a0_1) := (blk_cell BK234.out 1).trans rfl; have hcz7_2 : w5.cell? ⟨gb234, 2, none⟩ = some (.int .u32 a0_2) := (blk_cell BK234.out 2).trans rfl; have hcz7_3 : w5.cell? ⟨gb234, 3, none⟩ = some (.int .u32 a0_3) := (blk_cell BK234.out 3).trans rfl; have hcz7_4 : w5.cell? ⟨gb234, 4, none⟩ = some (.int .u32 a0_4) := (blk_cell BK234.out 4).trans rfl; have hcz7_5 : w5.cell? ⟨gb234, 5, none⟩ = some (.int .u32 a0_5) := (blk_cell BK234.out 5).trans rfl; have hcz7_6 : w5.cell? ⟨gb234, 6, none⟩ = some (.int .u32 a0_6) := (blk_cell BK234.out 6).trans rfl; have hcz7_7 : w5.cell? ⟨gb234, 7, none⟩ = some (.int .u32 a0_7) := (blk_cell BK234.out 7).trans rfl; have hfz7_0 := blk_frozen BK234.out 0; have hfz7_1 := blk_frozen BK234.out 1; have hfz7_2 := blk_frozen BK234.out 2; have hfz7_3 := blk_frozen BK234.out 3; have hfz7_4 := blk_frozen BK234.out 4; have hfz7_5 := blk_frozen BK234.out 5; have hfz7_6 := blk_frozen BK234.out 6; have hfz7_7 := blk_frozen BK234.out 7) | ((with_reducible refine gate_callee (f := 47) rfl ?_); refine goesL_ (some 8) rfl rfl Try.func47 (by kernel_rfl) rfl #[.agg #[.int .u32 a0_0, .int .u32 a0_1, .int .u32 a0_2, .int .u32 a0_3, .int .u32 a0_4, .int .u32 a0_5, .int .u32 a0_6, .int .u32 a0_7]] rfl (by (try simp only [List.map_toArray, List.map_cons, List.map_nil]); first | done | rfl | (simp only [List.length_drop, List.length_take]; rfl)) ?_; (with_reducible refine (offertoryref09_Neg.calls a0_0 a0_1 a0_2 a0_3 a0_4 a0_5 a0_6 a0_7 t236 t237 t238 t239 t240 t241 t242 t243 _ A3.out).mono ?_); rintro e w8 ⟨rfl, hb⟩; refine ⟨_, rfl, ?_⟩; have n0_ := offertoryref09_Signed.keepB BK234 hb; have n1_ := offertoryref09_Signed.keepB BK235 hb; have n2_ := Aside0.mk (below_step (by repeat (first | (with_reducible first | exact HB.out | apply below_alloc | apply pw_below_drewN | apply below_drew1 | refine below_set ?_ GE234.out | refine below_set ?_ GE235.out) | exact HB.out)) hb); clear BK234; clear BK235; clear HB; have BK234 := n0_; have BK235 := n1_; have HB := n2_; clear n0_ n1_ n2_; (try clear hb); (try clear hb2); (try clear hk); (try clear hi); have hcz9_0 : w8.cell? ⟨gb235, 0, none⟩ = some (.int .u32 0) := (blk_cell BK235.out 0).trans rfl; have hcz9_1 : w8.cell? ⟨gb235, 1, none⟩ = some (.int .u32 0) := (blk_cell BK235.out 1).trans rfl; have hcz9_2 : w8.cell? ⟨gb235, 2, none⟩ = some (.int .u32 0) := (blk_cell BK235.out 2).trans rfl; have hcz9_3 : w8.cell? ⟨gb235, 3, none⟩ = some (.int .u32 0) := (blk_cell BK235.out 3).trans rfl; have hcz9_4 : w8.cell? ⟨gb235, 4, none⟩ = some (.int .u32 0) := (blk_cell BK235.out 4).trans rfl; have hcz9_5 : w8.cell? ⟨gb235, 5, none⟩ = some (.int .u32 0) := (blk_cell BK235.out 5).trans rfl; have hcz9_6 : w8.cell? ⟨gb235, 6, none⟩ = some (.int .u32 0) := (blk_cell BK235.out 6).trans rfl; have hcz9_7 : w8.cell? ⟨gb235, 7, none⟩ = some (.int .u32 0) := (blk_cell BK235.out 7).trans rfl; have hfz9_0 := blk_frozen BK235.out 0; have hfz9_1 := blk_frozen BK235.out 1; have hfz9_2 := blk_frozen BK235.out 2; have hfz9_3 := blk_frozen BK235.out 3; have hfz9_4 := blk_frozen BK235.out 4; have hfz9_5 := blk_frozen BK235.out 5; have hfz9_6 := blk_frozen BK235.out 6; have hfz9_7 := blk_frozen BK235.out 7))
    refine bodyPost_ret (results_ct rfl _ _ gb235 45 #[.int .u32 t236, .int .u32 t237, .int .u32 t238, .int .u32 t239, .int .u32 t240, .int .u32 t241, .int .u32 t242, .int .u32 t243] (0, 0) _ rfl (by (with_reducible repeat (first | refine blk_drewN ?_ _ | refine blk_drew ?_ | refine blk_alloc ?_ _)); refine blk_put (cs := #[.int .u32 t236, .int .u32 t237, .int .u32 t238, .int .u32 t239, .int .u32 t240, .int .u32 t241, .int .u32 t242, .int .u32 0]) ?_ 7 _ rfl; (with_reducible repeat (first | refine blk_drewN ?_ _ | refine blk_drew ?_ | refine blk_alloc ?_ _)); refine blk_put (cs := #[.int .u32 t236, .int .u32 t237, .int .u32 t238, .int .u32 t239, .int .u32 t240, .int .u32 t241, .int .u32 0, .int .u32 0]) ?_ 6 _ rfl; (with_reducible repeat (first | refine blk_drewN ?_ _ | refine blk_drew ?_ | refine blk_alloc ?_ _)); refine blk_put (cs := #[.int .u32 t236, .int .u32 t237, .int .u32 t238, .int .u32 t239, .int .u32 t240, .int .u32 0, .int .u32 0, .int .u32 0]) ?_ 5 _ rfl; (with_reducible repeat (first | refine blk_drewN ?_ _ | refine blk_drew ?_ | refine blk_alloc ?_ _)); refine blk_put (cs := #[.int .u32 t236, .int .u32 t237, .int .u32 t238, .int .u32 t239, .int .u32 0, .int .u32 0, .int .u32 0, .int .u32 0]) ?_ 4 _ rfl; (with_reducible repeat (first | refine blk_drewN ?_ _ | refine blk_drew ?_ | refine blk_alloc ?_ _)); refine blk_put (cs := #[.int .u32 t236, .int .u32 t237, .int .u32 t238, .int .u32 0, .int .u32 0, .int .u32 0, .int .u32 0, .int .u32 0]) ?_ 3 _ rfl; (with_reducible repeat (first | refine blk_drewN ?_ _ | refine blk_drew ?_ | refine blk_alloc ?_ _)); refine blk_put (cs := #[.int .u32 t236, .int .u32 t237, .int .u32 0, .int .u32 0, .int .u32 0, .int .u32 0, .int .u32 0, .int .u32 0]) ?_ 2 _ rfl; (with_reducible repeat (first | refine blk_drewN ?_ _ | refine blk_drew ?_ | refine blk_alloc ?_ _)); refine blk_put (cs := #[.int .u32 t236, .int .u32 0, .int .u32 0, .int .u32 0, .int .u32 0, .int .u32 0, .int .u32 0, .int .u32 0]) ?_ 1 _ rfl; (with_reducible repeat (first | refine blk_drewN ?_ _ | refine blk_drew ?_ | refine blk_alloc ?_ _)); refine blk_put (cs := #[.int .u32 0, .int .u32 0, .int .u32 0, .int .u32 0, .int .u32 0, .int .u32 0, .int .u32 0, .int .u32 0]) ?_ 0 _ rfl; (with_reducible repeat (first | refine blk_drewN ?_ _ | refine blk_drew ?_ | refine blk_alloc ?_ _)); exact BK235.out) Try.underlying45 rfl (by kernel_rfl)) rfl ?_
    exact ⟨by first | rfl | (simp [errW_none, errW_some] <;> rfl) | (simp [*, errW_none, errW_some] <;> rfl), by repeat (first | (with_reducible first | exact HB.out | apply below_alloc | apply pw_below_drewN | apply below_drew1 | refine below_set ?_ GE234.out | refine below_set ?_ GE235.out) | exact HB.out)⟩
  · rw [if_neg c2] at H
    have c2b0 : decide (32768 ≤ a0_7) = false := decide_eq_false c2
    clear c2
    simp only [Option.some.injEq, Prod.mk.injEq] at H
    obtain ⟨rfl, rfl, rfl, rfl, rfl, rfl, rfl, rfl, rfl⟩ := H
    go_enter Try.func32, Try.ntmps32
    go_wp2_with (first | ((with_reducible refine gate_dst (N := 1) rfl ?_); refine box_event ?hg (N := 1) ?hd (cs := #[.int .u32 a0_0, .int .u32 a0_1, .int .u32 a0_2, .int .u32 a0_3, .int .u32 a0_4, .int .u32 a0_5, .int .u32 a0_6, .int .u32 a0_7]) (t := 45) ?hr ?_; (case hd => rfl); (case hg => rfl); (case hr => first | (go_simp; done) | (go_simp; rfl)); intro gb234 hg w10 hbox hb; have n0_ := Aside0.mk (below_step (by repeat (first | (with_reducible first | exact HB.out | apply below_alloc | apply pw_below_drewN | apply below_drew1) | exact HB.out)) hb); have n1_ := Aside0.mk (hbox); have n2_ := Aside0.mk ((by rw [hg]; exact (below_size (by repeat (first | (with_reducible first | exact HB.out | apply below_alloc | apply pw_below_drewN | apply below_drew1) | exact HB.out))) : w.heap.size ≤ gb234)); have n3_ := Aside0.mk ((by rw [hg]; exact (below_size (by repeat (first | (with_reducible first | exact HB.out | apply below_alloc | apply pw_below_drewN | apply below_drew1) | exact HB.out))) : w.heap.size ≤ gb234)); clear HB; have HB := n0_; have BK234 := n1_; have GW234 := n2_; have GE234 := n3_; clear n0_ n1_ n2_ n3_; clear hb hbox hg) | ((with_reducible refine gate_dst (N := 2) rfl ?_); refine box_event ?hg (N := 2) ?hd (cs := #[.int .u32 0, .int .u32 0, .int .u32 0, .int .u32 0, .int .u32 0, .int .u32 0, .int .u32 0, .int .u32 0]) (t := 45) ?hr ?_; (case hd => rfl); (case hg => rfl); (case hr => first | (go_simp; done) | (go_simp; rfl)); intro gb235 hg w11 hbox hb; have n0_ := offertoryref09_Signed.keepB BK234 hb; have n1_ := Aside0.mk (below_step (by repeat (first | (with_reducible first | exact HB.out | apply below_alloc | apply pw_below_drewN | apply below_drew1 | refine below_set ?_ GE234.out) | exact HB.out)) hb); have n2_ := Aside0.mk (hbox); have n3_ := Aside0.mk ((by rw [hg]; exact (below_size (by repeat (first | (with_reducible first | exact HB.out | apply below_alloc | apply pw_below_drewN | apply below_drew1 | refine below_set ?_ GE234.out) | exact HB.out))) : w.heap.size ≤ gb235)); have n4_ := Aside0.mk ((by rw [hg]; exact (below_size (by repeat (first | (with_reducible first | exact HB.out | apply below_alloc | apply pw_below_drewN | apply below_drew1 | refine below_set ?_ GE234.out) | exact HB.out))) : w.heap.size ≤ gb235)); have n5_ := offertoryref09_Signed.neL BK234 hg; have n6_ := offertoryref09_Signed.neG BK234 hg; clear BK234; clear HB; have BK234 := n0_; have HB := n1_; have BK235 := n2_; have GW235 := n3_; have GE235 := n4_; have NB234_235 := n5_; have NB235_234 := n6_; clear n0_ n1_ n2_ n3_ n4_ n5_ n6_; clear hb hbox hg; have hnb12 := NB234_235.out; have hnc12 := NB235_234.out; have hcz13_0 : w11.cell? ⟨gb234, 0, none⟩ = some (.int .u32 a0_0) := (blk_cell BK234.out 0).trans rfl; have hcz13_1 : w11.cell? ⟨gb234, 1, none⟩ = some (.int .u32 a0_1) := (blk_cell BK234.out 1).trans rfl; have hcz13_2 : w11.cell? ⟨gb234, 2, none⟩ = some (.int .u32 a0_2) := (blk_cell BK234.out 2).trans rfl; have hcz13_3 : w11.cell? ⟨gb234, 3, none⟩ = some (.int .u32 a0_3) := (blk_cell BK234.out 3).trans rfl; have hcz13_4 : w11.cell? ⟨gb234, 4, none⟩ = some (.int .u32 a0_4) := (blk_cell BK234.out 4).trans rfl; have hcz13_5 : w11.cell? ⟨gb234, 5, none⟩ = some (.int .u32 a0_5) := (blk_cell BK234.out 5).trans rfl; have hcz13_6 : w11.cell? ⟨gb234, 6, none⟩ = some (.int .u32 a0_6) := (blk_cell BK234.out 6).trans rfl; have hcz13_7 : w11.cell? ⟨gb234, 7, none⟩ = some (.int .u32 a0_7) := (blk_cell BK234.out 7).trans rfl; have hfz13_0 := blk_frozen BK234.out 0; have hfz13_1 := blk_frozen BK234.out 1; have hfz13_2 := blk_frozen BK234.out 2; have hfz13_3 := blk_frozen BK234.out 3; have hfz13_4 := blk_frozen BK234.out 4; have hfz13_5 := blk_frozen BK234.out 5; have hfz13_6 := blk_frozen BK234.out 6; have hfz13_7 := blk_frozen BK234.out 7; have hcz14_0 : w11.cell? ⟨gb235, 0, none⟩ = some (.int .u32 0) := (blk_cell BK235.out 0).trans rfl; have hcz14_1 : w11.cell? ⟨gb235, 1, none⟩ = some (.int .u32 0) := (blk_cell BK235.out 1).trans rfl; have hcz14_2 : w11.cell? ⟨gb235, 2, none⟩ = some (.int .u32 0) := (blk_cell BK235.out 2).trans rfl; have hcz14_3 : w11.cell? ⟨gb235, 3, none⟩ = some (.int .u32 0) := (blk_cell BK235.out 3).trans rfl; have hcz14_4 : w11.cell? ⟨gb235, 4, none⟩ = some (.int .u32 0) := (blk_cell BK235.out 4).trans rfl; have hcz14_5 : w11.cell? ⟨gb235, 5, none⟩ = some (.int .u32 0) := (blk_cell BK235.out 5).trans rfl; have hcz14_6 : w11.cell? ⟨gb235, 6, none⟩ = some (.int .u32 0) := (blk_cell BK235.out 6).trans rfl; have hcz14_7 : w11.cell? ⟨gb235, 7, none⟩ = some (.int .u32 0) := (blk_cell BK235.out 7).trans rfl; have hfz14_0 := blk_frozen BK235.out 0; have hfz14_1 := blk_frozen BK235.out 1; have hfz14_2 := blk_frozen BK235.out 2; have hfz14_3 := blk_frozen BK235.out 3; have hfz14_4 := blk_frozen BK235.out 4; have hfz14_5 := blk_frozen BK235.out 5; have hfz14_6 := blk_frozen BK235.out 6; have hfz14_7 := blk_frozen BK235.out 7))
    refine bodyPost_ret (results_ct rfl _ _ gb235 45 #[.int .u32 a0_0, .int .u32 a0_1, .int .u32 a0_2, .int .u32 a0_3, .int .u32 a0_4, .int .u32 a0_5, .int .u32 a0_6, .int .u32 a0_7] (0, 0) _ rfl (by (with_reducible repeat (first | refine blk_drewN ?_ _ | refine blk_drew ?_ | refine blk_alloc ?_ _)); refine blk_put (cs := #[.int .u32 a0_0, .int .u32 a0_1, .int .u32 a0_2, .int .u32 a0_3, .int .u32 a0_4, .int .u32 a0_5, .int .u32 a0_6, .int .u32 0]) ?_ 7 _ rfl; (with_reducible repeat (first | refine blk_drewN ?_ _ | refine blk_drew ?_ | refine blk_alloc ?_ _)); refine blk_put (cs := #[.int .u32 a0_0, .int .u32 a0_1, .int .u32 a0_2, .int .u32 a0_3, .int .u32 a0_4, .int .u32 a0_5, .int .u32 0, .int .u32 0]) ?_ 6 _ rfl; (with_reducible repeat (first | refine blk_drewN ?_ _ | refine blk_drew ?_ | refine blk_alloc ?_ _)); refine blk_put (cs := #[.int .u32 a0_0, .int .u32 a0_1, .int .u32 a0_2, .int .u32 a0_3, .int .u32 a0_4, .int .u32 0, .int .u32 0, .int .u32 0]) ?_ 5 _ rfl; (with_reducible repeat (first | refine blk_drewN ?_ _ | refine blk_drew ?_ | refine blk_alloc ?_ _)); refine blk_put (cs := #[.int .u32 a0_0, .int .u32 a0_1, .int .u32 a0_2, .int .u32 a0_3, .int .u32 0, .int .u32 0, .int .u32 0, .int .u32 0]) ?_ 4 _ rfl; (with_reducible repeat (first | refine blk_drewN ?_ _ | refine blk_drew ?_ | refine blk_alloc ?_ _)); refine blk_put (cs := #[.int .u32 a0_0, .int .u32 a0_1, .int .u32 a0_2, .int .u32 0, .int .u32 0, .int .u32 0, .int .u32 0, .int .u32 0]) ?_ 3 _ rfl; (with_reducible repeat (first | refine blk_drewN ?_ _ | refine blk_drew ?_ | refine blk_alloc ?_ _)); refine blk_put (cs := #[.int .u32 a0_0, .int .u32 a0_1, .int .u32 0, .int .u32 0, .int .u32 0, .int .u32 0, .int .u32 0, .int .u32 0]) ?_ 2 _ rfl; (with_reducible repeat (first | refine blk_drewN ?_ _ | refine blk_drew ?_ | refine blk_alloc ?_ _)); refine blk_put (cs := #[.int .u32 a0_0, .int .u32 0, .int .u32 0, .int .u32 0, .int .u32 0, .int .u32 0, .int .u32 0, .int .u32 0]) ?_ 1 _ rfl; (with_reducible repeat (first | refine blk_drewN ?_ _ | refine blk_drew ?_ | refine blk_alloc ?_ _)); refine blk_put (cs := #[.int .u32 0, .int .u32 0, .int .u32 0, .int .u32 0, .int .u32 0, .int .u32 0, .int .u32 0, .int .u32 0]) ?_ 0 _ rfl; (with_reducible repeat (first | refine blk_drewN ?_ _ | refine blk_drew ?_ | refine blk_alloc ?_ _)); exact BK235.out) Try.underlying45 rfl (by kernel_rfl)) rfl ?_
    exact ⟨by first | rfl | (simp [errW_none, errW_some] <;> rfl) | (simp [*, errW_none, errW_some] <;> rfl), by repeat (first | (with_reducible first | exact HB.out | apply below_alloc | apply pw_below_drewN | apply below_drew1 | refine below_set ?_ GE234.out | refine below_set ?_ GE235.out) | exact HB.out)⟩

end Go.Proofs.Ytdpekjffjobabaa.PAll
