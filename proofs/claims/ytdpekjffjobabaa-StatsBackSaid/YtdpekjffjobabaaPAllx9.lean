/- The Go functions that the laws reach, as Lean functions, and that each call comes to what its function says. Written by a program of this session (a turned copy of the kit's print). No condition beyond those that each theorem states. -/
import Derived.Test.YtdpekjffjobabaaPAllx0
import Derived.Test.YtdpekjffjobabaaPAllx3
namespace Go.Proofs.Ytdpekjffjobabaa.PAll
open Go.RowKit Go.Proofs.YtdpekjffjobabaaW.PrintWords Go.Proofs.YtdpekjffjobabaaW.PrintLast Go.Proofs.YtdpekjffjobabaaW.PrintMore
attribute [local go_sem] max2_int min2_int max_two min_two max_three min_three max_four min_four   -- for this text's walks alone
set_option linter.unusedVariables false
set_option linter.unusedSimpArgs false

/-! ### offertoryref09_Bits: function 39 -/
def offertoryref09_Bits.l0 : Nat → Int → Int → Int → Int → List Int → Option (Int)
  | 0, _, _, _, _, _ => none
  | k + 1, x3, x235000, x235001, x235002, x235003 => if 0 ≤ (IntKind.u64.wrap (x3)) then (if (wrap64 (x235001 - x235000)) ≥ (shl .i64 1 (IntKind.u64.wrap (x3))) then (offertoryref09_Bits.l0 k (wrap64 (x3 + 1)) x235000 x235001 x235002 x235003) else (some x3)) else (none)
def offertoryref09_Bits.f (k : Nat) (a0_0 : Int) (a0_1 : Int) (a0_2 : Int) (l0_3 : List Int) : Option (Int) := offertoryref09_Bits.l0 k 1 a0_0 a0_1 a0_2 l0_3
theorem offertoryref09_Bits.mono_l : ∀ k, (∀ y0 y1 y2 y3 y4, LeO (offertoryref09_Bits.l0 k y0 y1 y2 y3 y4) (offertoryref09_Bits.l0 (k + 1) y0 y1 y2 y3 y4))
  | 0 => fun _ _ _ _ _ r h => by simp [offertoryref09_Bits.l0] at h
  | k + 1 => by
    have ih0 := offertoryref09_Bits.mono_l k
    · intro y0 y1 y2 y3 y4
      unfold offertoryref09_Bits.l0
      repeat' first
      | (with_reducible exact ih0 _ _ _ _ _)
      | (with_reducible exact LeO.refl _)
      | (with_reducible exact LeO.none _)
      | (with_reducible refine LeO.ite ?_ ?_)
      | (with_reducible refine LeO.bind ?_ (fun _ => ?_))
      | exact ih0 _ _ _ _ _
      | exact LeO.none _
      | refine LeO.ite ?_ ?_
      | refine LeO.bind ?_ (fun _ => ?_)
theorem offertoryref09_Bits.mono : ∀ a0 a1 a2 a3 k, LeO (offertoryref09_Bits.f k a0 a1 a2 a3) (offertoryref09_Bits.f (k + 1) a0 a1 a2 a3) := by
  intro a0 a1 a2 a3 k
  have ih0 := offertoryref09_Bits.mono_l k
  unfold offertoryref09_Bits.f
  repeat' first
      | (with_reducible exact ih0 _ _ _ _ _)
      | (with_reducible exact LeO.refl _)
      | (with_reducible exact LeO.none _)
      | (with_reducible refine LeO.ite ?_ ?_)
      | (with_reducible refine LeO.bind ?_ (fun _ => ?_))
      | exact ih0 _ _ _ _ _
      | exact LeO.none _
      | refine LeO.ite ?_ ?_
      | refine LeO.bind ?_ (fun _ => ?_)
set_option maxHeartbeats 8000000 in
set_option maxRecDepth 100000 in
theorem offertoryref09_Bits.calls (k : Nat) (a0_0 : Int) (a0_1 : Int) (a0_2 : Int) (A0_3 : Option Addr) (c0_3 : Nat) (l0_3 : List Int) (r : Int) (w : World) (hr0_3 : Kd.C (Kd.int .i64) w A0_3 l0_3.length l0_3) (hc0_3 : l0_3.length ≤ c0_3) (h : offertoryref09_Bits.f k a0_0 a0_1 a0_2 l0_3 = some r) :
    Calls Try.prog 39 #[.agg #[.int .i64 a0_0, .int .i64 a0_1, .int .i64 a0_2, .slice A0_3 l0_3.length c0_3]] w fun e w' => e = .returned (.int .i64 r) ∧ Below w.heap.size w w' := by
  have hu24 := Try.underlying24
  have HR0_3 := Aside0.mk hr0_3
  have HC0_3 := Aside0.mk hc0_3
  clear hr0_3 hc0_3
  have HB := Aside0.mk (Below.refl w.heap.size w)
  have H : (offertoryref09_Bits.l0 k 1 a0_0 a0_1 a0_2 l0_3) = some r := h
  clear h
  have H' := Aside0.mk H
  clear H
  go_enter Try.func39, Try.ntmps39
  go_wp2_with (first | ((with_reducible refine gate_dst (N := 1) rfl ?_); refine box_event ?hg (N := 1) ?hd (cs := #[.int .i64 a0_0, .int .i64 a0_1, .int .i64 a0_2, .slice A0_3 l0_3.length c0_3]) (t := 24) ?hr ?_; (case hd => rfl); (case hg => rfl); (case hr => first | (go_simp; done) | (go_simp; rfl)); intro gb234 hg w2 hbox hb; have n0_ := Aside0.mk (below_step (by repeat (first | (with_reducible first | exact HB.out | apply below_alloc | apply pw_below_drewN | apply below_drew1) | exact HB.out)) hb); have n1_ := Aside0.mk (hbox); have n2_ := Aside0.mk ((by rw [hg]; exact (below_size (by repeat (first | (with_reducible first | exact HB.out | apply below_alloc | apply pw_below_drewN | apply below_drew1) | exact HB.out))) : w.heap.size ≤ gb234)); have n3_ := Aside0.mk ((by rw [hg]; exact (below_size (by repeat (first | (with_reducible first | exact HB.out | apply below_alloc | apply pw_below_drewN | apply below_drew1) | exact HB.out))) : w.heap.size ≤ gb234)); clear HB; have HB := n0_; have BK234 := n1_; have GW234 := n2_; have GE234 := n3_; clear n0_ n1_ n2_ n3_; clear hb hbox hg))
  go_loopg [3] k (fun kq v3 w' => ∃ (x3_1 : Int), v3 = .int .i64 x3_1 ∧ Aside0 (offertoryref09_Bits.l0 kq x3_1 a0_0 a0_1 a0_2 l0_3 = some r) ∧ Aside0 (kq ≤ k) ∧ Aside0 (w'.heap[gb234]? = some (.cells #[.int .i64 a0_0, .int .i64 a0_1, .int .i64 a0_2, (.slice A0_3 l0_3.length c0_3)] 24 (0, 0))) ∧ Aside0 (Below w.heap.size w w'))
  case atStart => exact ⟨(1), (by first | rfl | (simp; done) | (simp [*]; done)), H', ⟨Nat.le_refl _⟩, ⟨by (with_reducible repeat (first | refine blk_drewN ?_ _ | refine blk_drew ?_ | refine blk_alloc ?_ _)); exact BK234.out⟩, ⟨by repeat (first | (with_reducible first | exact HB.out | apply below_alloc | apply pw_below_drewN | apply below_drew1 | refine below_set ?_ GE234.out) | exact HB.out)⟩⟩
  case round =>
    clear H'
    try clear p2
    obtain ⟨x3_1, rfl, HA, HK1, BK234, HB⟩ := hrel
    cases gk with
    | zero => exact absurd HA.out (by simp [offertoryref09_Bits.l0])
    | succ k1 =>
      have H := HA.out
      clear HA
      simp only [offertoryref09_Bits.l0] at H
      obtain ⟨ji3, hji3⟩ : ∃ j_ : Int, (IntKind.u64.wrap (x3_1)) = j_ := ⟨_, rfl⟩
      replace H : (if 0 ≤ (ji3) then (if (wrap64 (a0_1 - a0_0)) ≥ (shl .i64 1 (ji3)) then (offertoryref09_Bits.l0 k1 (wrap64 (x3_1 + 1)) a0_0 a0_1 a0_2 l0_3) else (some x3_1)) else (none)) = some r := by first | (rw [hji3] at H; exact H) | (simp only [hji3] at H ⊢; exact H)
      by_cases c4 : 0 ≤ (ji3)
      · rw [if_pos c4] at H
        have c4b0 := eq_true c4
        have c4b1 : decide (0 ≤ (ji3)) = true := decide_eq_true c4
        clear c4
        obtain ⟨ji5, hji5⟩ : ∃ j_ : Int, (shl .i64 1 (ji3)) = j_ := ⟨_, rfl⟩
        replace H : (if (wrap64 (a0_1 - a0_0)) ≥ (ji5) then (offertoryref09_Bits.l0 k1 (wrap64 (x3_1 + 1)) a0_0 a0_1 a0_2 l0_3) else (some x3_1)) = some r := by first | (rw [hji5] at H; exact H) | (simp only [hji5] at H ⊢; exact H)
        have hji5_ : (IntKind.i64.wrap (1 * 2 ^ min (ji3).toNat 64)) = ji5 := hji5
        have hji5z : (ji3) ≤ 64 → (IntKind.i64.wrap (1 * 2 ^ (ji3).toNat)) = ji5 := shl_small hji5
        have hji5u : (IntKind.i64.wrap (2 ^ min (ji3).toNat 64)) = ji5 := by have h_ := hji5_; rw [Int.one_mul] at h_; exact h_
        have hji5v : (ji3) ≤ 64 → (IntKind.i64.wrap (2 ^ (ji3).toNat)) = ji5 := fun hle_ => by have h_ := hji5z hle_; rw [Int.one_mul] at h_; exact h_
        have hji5y : (wrap64 (1 * 2 ^ min (ji3).toNat 64)) = ji5 := (i64_w _).symm.trans hji5_
        have hji5x : (ji3) ≤ 64 → (wrap64 (1 * 2 ^ (ji3).toNat)) = ji5 := fun h_ => (i64_w _).symm.trans (hji5z h_)
        by_cases c6 : (wrap64 (a0_1 - a0_0)) ≥ (ji5)
        · rw [if_pos c6] at H
          have c6b0 : decide ((ji5) ≤ (wrap64 (a0_1 - a0_0))) = true := decide_eq_true c6
          clear c6
          have H' := Aside0.mk H
          clear H
          have hcz7_0 : wr.cell? ⟨gb234, 0, none⟩ = some (.int .i64 a0_0) := (blk_cell BK234.out 0).trans rfl
          have hcz7_1 : wr.cell? ⟨gb234, 1, none⟩ = some (.int .i64 a0_1) := (blk_cell BK234.out 1).trans rfl
          have hcz7_2 : wr.cell? ⟨gb234, 2, none⟩ = some (.int .i64 a0_2) := (blk_cell BK234.out 2).trans rfl
          have hcz7_3 : wr.cell? ⟨gb234, 3, none⟩ = some (.slice A0_3 l0_3.length c0_3) := (blk_cell BK234.out 3).trans rfl
          have hfz7_0 := blk_frozen BK234.out 0
          have hfz7_1 := blk_frozen BK234.out 1
          have hfz7_2 := blk_frozen BK234.out 2
          have hfz7_3 := blk_frozen BK234.out 3
          go_wp2
          go_roundg k1
          case measure => have := HK1.out; omega
          case rel => exact ⟨(wrap64 (x3_1 + 1)), (by first | rfl | (simp; done) | (simp [*]; done)), H', ⟨by have := HK1.out; omega⟩, ⟨by (with_reducible repeat (first | refine blk_drewN ?_ _ | refine blk_drew ?_ | refine blk_alloc ?_ _)); exact BK234.out⟩, ⟨by repeat (first | (with_reducible first | exact HB.out | apply below_alloc | apply pw_below_drewN | apply below_drew1 | refine below_set ?_ GE234.out) | exact HB.out)⟩⟩
        · rw [if_neg c6] at H
          have c6b0 : decide ((ji5) ≤ (wrap64 (a0_1 - a0_0))) = false := decide_eq_false c6
          clear c6
          obtain rfl := Option.some.inj H
          have hcz8_0 : wr.cell? ⟨gb234, 0, none⟩ = some (.int .i64 a0_0) := (blk_cell BK234.out 0).trans rfl
          have hcz8_1 : wr.cell? ⟨gb234, 1, none⟩ = some (.int .i64 a0_1) := (blk_cell BK234.out 1).trans rfl
          have hcz8_2 : wr.cell? ⟨gb234, 2, none⟩ = some (.int .i64 a0_2) := (blk_cell BK234.out 2).trans rfl
          have hcz8_3 : wr.cell? ⟨gb234, 3, none⟩ = some (.slice A0_3 l0_3.length c0_3) := (blk_cell BK234.out 3).trans rfl
          have hfz8_0 := blk_frozen BK234.out 0
          have hfz8_1 := blk_frozen BK234.out 1
          have hfz8_2 := blk_frozen BK234.out 2
          have hfz8_3 := blk_frozen BK234.out 3
          go_wp2
          go_ret
          exact ⟨by first | rfl | (simp [errW_none, errW_some] <;> rfl) | (simp only [← hji3, ← hji5]; first | rfl | (simp [errW_none, errW_some] <;> rfl)) | (simp [*, errW_none, errW_some] <;> rfl), by repeat (first | (with_reducible first | exact HB.out | apply below_alloc | apply pw_below_drewN | apply below_drew1 | refine below_set ?_ GE234.out) | exact HB.out)⟩
      · rw [if_neg c4] at H
        exact absurd H (by simp)

/-! ### offertoryref09_Len: function 14 -/
def offertoryref09_Len.f (k : Nat) (a0_0 : Int) (a0_1 : Int) (a0_2 : Int) (l0_3 : List Int) : Option (Int) := (offertoryref09_Bits.f k a0_0 a0_1 a0_2 l0_3).bind fun t236 => (some (wrap64 ((wrap64 ((l0_3.length : Int) + 2)) + (wrap64 (3 * t236)))))
theorem offertoryref09_Len.mono : ∀ a0 a1 a2 a3 k, LeO (offertoryref09_Len.f k a0 a1 a2 a3) (offertoryref09_Len.f (k + 1) a0 a1 a2 a3) := by
  intro a0 a1 a2 a3 k
  unfold offertoryref09_Len.f
  repeat' first
      | (with_reducible exact offertoryref09_Bits.mono _ _ _ _ _)
      | (with_reducible exact LeO.refl _)
      | (with_reducible exact LeO.none _)
      | (with_reducible refine LeO.ite ?_ ?_)
      | (with_reducible refine LeO.bind ?_ (fun _ => ?_))
      | exact offertoryref09_Bits.mono _ _ _ _ _
      | exact LeO.none _
      | refine LeO.ite ?_ ?_
      | refine LeO.bind ?_ (fun _ => ?_)
def offertoryref09_Len.T1 : Bool × List (List Nat × List Nat) := (true, [([], []), ([0], [0]), ([1], [1]), ([2], [2]), ([], []), ([4], [4]), ([5], [5]), ([3, 6], [3, 6]), ([7, 5, 0, 1, 2, 3, 4, 5, 6, 7], [7])])
def offertoryref09_Len.B1 : List Nat := [0, 1, 3, 7, 0, 16, 48, 127, 255]
theorem offertoryref09_Len.tab1 : rtab .any (opsOf Try.f14 1) = offertoryref09_Len.T1 := by kernel_rfl
theorem offertoryref09_Len.bits1 : waitsOk offertoryref09_Len.T1.2 offertoryref09_Len.B1 = true := by kernel_rfl
set_option maxHeartbeats 8000000 in
set_option maxRecDepth 100000 in
theorem offertoryref09_Len.calls (k : Nat) (a0_0 : Int) (a0_1 : Int) (a0_2 : Int) (A0_3 : Option Addr) (c0_3 : Nat) (l0_3 : List Int) (r : Int) (w : World) (hr0_3 : Kd.C (Kd.int .i64) w A0_3 l0_3.length l0_3) (hc0_3 : l0_3.length ≤ c0_3) (h : offertoryref09_Len.f k a0_0 a0_1 a0_2 l0_3 = some r) :
    Calls Try.prog 14 #[.agg #[.int .i64 a0_0, .int .i64 a0_1, .int .i64 a0_2, .slice A0_3 l0_3.length c0_3]] w fun e w' => e = .returned (.int .i64 r) ∧ Below w.heap.size w w' := by
  have hu24 := Try.underlying24
  have HR0_3 := Aside0.mk hr0_3
  have HC0_3 := Aside0.mk hc0_3
  clear hr0_3 hc0_3
  have HB := Aside0.mk (Below.refl w.heap.size w)
  have H : ((offertoryref09_Bits.f k a0_0 a0_1 a0_2 l0_3).bind fun t236 => (some (wrap64 ((wrap64 ((l0_3.length : Int) + 2)) + (wrap64 (3 * t236)))))) = some r := h
  clear h
  replace H := Option.bind_eq_some_iff.mp H
  obtain ⟨t236, A20, H⟩ := H
  replace H : (some (wrap64 ((wrap64 ((l0_3.length : Int) + 2)) + (wrap64 (3 * t236))))) = some r := H
  have A2 := Aside0.mk A20
  clear A20
  obtain rfl := Option.some.inj H
  go_enter Try.func14, Try.ntmps14
  try go_wp2_with (first | ((with_reducible refine gate_dst (N := 1) rfl ?_); refine box_event ?hg (N := 1) ?hd (cs := #[.int .i64 a0_0, .int .i64 a0_1, .int .i64 a0_2, .slice A0_3 l0_3.length c0_3]) (t := 24) ?hr ?_; (case hd => rfl); (case hg => rfl); (case hr => first | (go_simp; done) | (go_simp; rfl)); intro gb235 hg w3 hbox hb; have n0_ := Aside0.mk (below_step (by repeat (first | (with_reducible first | exact HB.out | apply below_alloc | apply pw_below_drewN | apply below_drew1) | exact HB.out)) hb); have n1_ := Aside0.mk (hbox); have n2_ := Aside0.mk ((by rw [hg]; exact (below_size (by repeat (first | (with_reducible first | exact HB.out | apply below_alloc | apply pw_below_drewN | apply below_drew1) | exact HB.out))) : w.heap.size ≤ gb235)); have n3_ := Aside0.mk ((by rw [hg]; exact (below_size (by repeat (first | (with_reducible first | exact HB.out | apply below_alloc | apply pw_below_drewN | apply below_drew1) | exact HB.out))) : w.heap.size ≤ gb235)); clear HB; have HB := n0_; have BK235 := n1_; have GW235 := n2_; have GE235 := n3_; clear n0_ n1_ n2_ n3_; clear hb hbox hg))
  have n0_ := Aside0.mk (blk_drew BK235.out)
  have n1_ := Aside0.mk (below_drew1 HB.out)
  clear BK235
  clear HB
  have BK235 := n0_
  have HB := n1_
  clear n0_ n1_
  refine start_ (n := 9) (S := fun w' => w'.cell? ⟨gb235, 0, none⟩ = some (.int .i64 a0_0) ∧ w'.cell? ⟨gb235, 1, none⟩ = some (.int .i64 a0_1) ∧ w'.cell? ⟨gb235, 2, none⟩ = some (.int .i64 a0_2) ∧ w'.cell? ⟨gb235, 3, none⟩ = some (.slice A0_3 l0_3.length c0_3)) (ds := []) #[false, false, false, false, false, false, false, false, false] (by kernel_rfl) rfl rfl ⟨(blk_cell BK235.out 0).trans rfl, (blk_cell BK235.out 1).trans rfl, (blk_cell BK235.out 2).trans rfl, (blk_cell BK235.out 3).trans rfl⟩ (fun hHeld => ?_); refine with_tabW offertoryref09_Len.tab1 offertoryref09_Len.bits1 (fun HT_ HW_ => ?_)
  generalize w3.drew = w4 at BK235 HB hHeld ⊢
  refine pure_ (i := 0) (N := some 3) (v := ?_) (a' := ?_) #[true, false, false, false, false, false, false, false, false] rfl rfl (any_of HT_.out (by kernel_rfl)) (fun _ _ _ h => h) (Or.inl ⟨by rfl, ?_⟩) ?_ ?_
  rotate_left
  · intro w'
    (try simp only [add_plain] at s0 s1 s2 s3)
    go_simp
    with_reducible rfl
  rotate_left
  · simp only [Act.put, List.setIfInBounds_toArray, List.set_cons_zero, List.set_cons_succ, i64_w, i32_w]
    rfl
  refine take_ (i := 1) (N := some 4) (v := ?_) (a' := ?_) #[true, true, false, false, false, false, false, false, false] rfl rfl (take_ofW HT_.out HW_.out (by kernel_rfl)) (fun _ _ _ h => h) (Or.inl ⟨by rfl, ?_⟩) hHeld ?_ ?_
  rotate_left
  · rintro w' ⟨s0, s1, s2, s3⟩
    (try simp only [add_plain] at s0 s1 s2 s3)
    go_simp
    with_reducible rfl
  rotate_left
  · simp only [Act.put, List.setIfInBounds_toArray, List.set_cons_zero, List.set_cons_succ, i64_w, i32_w]
    rfl
  refine pure_ (i := 2) (N := some 5) (v := ?_) (a' := ?_) #[true, true, true, false, false, false, false, false, false] rfl rfl (any_of HT_.out (by kernel_rfl)) (fun _ _ _ h => h) (Or.inl ⟨by rfl, ?_⟩) ?_ ?_
  rotate_left
  · intro w'
    (try simp only [add_plain] at s0 s1 s2 s3)
    go_simp
    with_reducible rfl
  rotate_left
  · simp only [Act.put, List.setIfInBounds_toArray, List.set_cons_zero, List.set_cons_succ, i64_w, i32_w]
    rfl
  refine pure_ (i := 3) (N := some 6) (v := ?_) (a' := ?_) #[true, true, true, true, false, false, false, false, false] rfl rfl (any_of HT_.out (by kernel_rfl)) (fun _ _ _ h => h) (Or.inl ⟨by rfl, ?_⟩) ?_ ?_
  rotate_left
  · intro w'
    (try simp only [add_plain] at s0 s1 s2 s3)
    go_simp
    with_reducible rfl
  rotate_left
  · simp only [Act.put, List.setIfInBounds_toArray, List.set_cons_zero, List.set_cons_succ, i64_w, i32_w]
    rfl
  refine take_ (i := 4) (N := some 7) (v := ?_) (a' := ?_) #[true, true, true, true, true, false, false, false, false] rfl rfl (take_ofW HT_.out HW_.out (by kernel_rfl)) (fun _ _ _ h => h) (Or.inl ⟨by rfl, ?_⟩) hHeld ?_ ?_
  rotate_left
  · rintro w' ⟨s0, s1, s2, s3⟩
    (try simp only [add_plain] at s0 s1 s2 s3)
    go_simp
    with_reducible rfl
  rotate_left
  · simp only [Act.put, List.setIfInBounds_toArray, List.set_cons_zero, List.set_cons_succ, i64_w, i32_w]
    rfl
  refine one_ (i := 5) (N := some 8) #[true, true, true, true, true, true, false, false, false] rfl rfl (one_of HT_.out (by kernel_rfl)) (by decide) (fun K hK => ?_)
  refine goes_ Try.func39 (by kernel_rfl) rfl #[.agg #[.int .i64 a0_0, .int .i64 a0_1, .int .i64 a0_2, .slice A0_3 l0_3.length c0_3]] (by rfl) rfl rfl (by (try simp only [List.map_toArray, List.map_cons, List.map_nil]); first | done | rfl | (simp only [List.length_drop, List.length_take]; rfl)) ?_
  with_reducible refine (offertoryref09_Bits.calls k a0_0 a0_1 a0_2 _ _ l0_3 t236 _ ?side1 ?side2 A2.out).mono ?_
  (case side1 => repeat (first | exact (Kd.C_below HR0_3.out HB.out) | (with_reducible refine Kd.C_alloc ?_ _) | (with_reducible refine Kd.C_drewN ?_ _) | (with_reducible refine Kd.C_drew ?_)))
  (case side2 => exact HC0_3.out)
  rintro e w5 ⟨rfl, hb⟩
  refine ⟨_, rfl, ?_⟩
  have n0_ := Aside0.mk (blk_below (g := gb235) (o := .cells #[.int .i64 a0_0, .int .i64 a0_1, .int .i64 a0_2, .slice A0_3 l0_3.length c0_3] 24 (0, 0)) (by (with_reducible repeat (first | refine blk_drewN ?_ _ | refine blk_drew ?_ | refine blk_alloc ?_ _)); exact BK235.out) hb)
  have n1_ := Aside0.mk (below_step (by repeat (first | (with_reducible first | exact HB.out | apply below_alloc | apply pw_below_drewN | apply below_drew1 | refine below_set ?_ GE235.out) | exact HB.out)) hb)
  clear BK235
  clear HB
  have BK235 := n0_
  have HB := n1_
  clear n0_ n1_
  (try clear hb)
  (try clear hb2)
  (try clear hk)
  (try clear hi)
  refine hK.out _ _ ⟨(blk_cell BK235.out 0).trans rfl, (blk_cell BK235.out 1).trans rfl, (blk_cell BK235.out 2).trans rfl, (blk_cell BK235.out 3).trans rfl⟩ (fun hHeld => ?_)
  clear hK K
  refine norm_ (a' := ?_) ?_ ?_
  rotate_left
  · show Act.put _ (some 8) _ = _
    simp only [Act.put, List.setIfInBounds_toArray, List.set_cons_zero, List.set_cons_succ, i64_w, i32_w]
    rfl
  refine pure_ (i := 6) (N := some 9) (v := ?_) (a' := ?_) #[true, true, true, true, true, true, true, false, false] rfl rfl (any_of HT_.out (by kernel_rfl)) (fun _ _ _ h => h) (Or.inl ⟨by rfl, ?_⟩) ?_ ?_
  rotate_left
  · intro w'
    (try simp only [add_plain] at s0 s1 s2 s3)
    go_simp
    with_reducible rfl
  rotate_left
  · simp only [Act.put, List.setIfInBounds_toArray, List.set_cons_zero, List.set_cons_succ, i64_w, i32_w]
    rfl
  refine pure_ (i := 7) (N := some 10) (v := ?_) (a' := ?_) #[true, true, true, true, true, true, true, true, false] rfl rfl (any_of HT_.out (by kernel_rfl)) (fun _ _ _ h => h) (Or.inl ⟨by rfl, ?_⟩) ?_ ?_
  rotate_left
  · intro w'
    (try simp only [add_plain] at s0 s1 s2 s3)
    go_simp
    with_reducible rfl
  rotate_left
  · simp only [Act.put, List.setIfInBounds_toArray, List.set_cons_zero, List.set_cons_succ, i64_w, i32_w]
    rfl
  refine pure_ (i := 8) (N := some 2) (v := ?_) (a' := ?_) #[true, true, true, true, true, true, true, true, true] rfl rfl (any_of HT_.out (by kernel_rfl)) (fun _ _ _ h => h) (Or.inl ⟨by rfl, ?_⟩) ?_ ?_
  rotate_left
  · intro w'
    (try simp only [add_plain] at s0 s1 s2 s3)
    go_simp
    with_reducible rfl
  rotate_left
  · simp only [Act.put, List.setIfInBounds_toArray, List.set_cons_zero, List.set_cons_succ, i64_w, i32_w]
    rfl
  refine done_ (done_of HT_.out (by kernel_rfl)) ?_
  try go_wp2
  go_ret
  exact ⟨by first | rfl | (simp [errW_none, errW_some] <;> rfl) | (simp [*, errW_none, errW_some] <;> rfl), by repeat (first | (with_reducible first | exact HB.out | apply below_alloc | apply pw_below_drewN | apply below_drew1 | refine below_set ?_ GE235.out) | exact HB.out)⟩

/-! ### offertoryref09_Of: function 18 -/
def offertoryref09_Of.f (a0_0 a0_1 : Int) : Option (Int × Int × Int × Int × Int × Int × Int × Int) :=
  if (0 ≤ a0_0 ∧ a0_0 ≤ 18446744073709551615) ∧ (0 ≤ a0_1 ∧ a0_1 ≤ 18446744073709551615) then some (digs (a0_1 + a0_0 * 18446744073709551616)) else none
set_option maxHeartbeats 800000 in
set_option maxRecDepth 100000 in
theorem offertoryref09_Of.calls (a0_0 a0_1 r1 r2 r3 r4 r5 r6 r7 r8 : Int) (w : World) (h : offertoryref09_Of.f a0_0 a0_1 = some (r1, r2, r3, r4, r5, r6, r7, r8)) :
    Calls Try.prog 18 #[.agg #[.int .u64 a0_0, .int .u64 a0_1]] w fun e w' => e = .returned (.agg #[.int .u32 r1, .int .u32 r2, .int .u32 r3, .int .u32 r4, .int .u32 r5, .int .u32 r6, .int .u32 r7, .int .u32 r8]) ∧ Below w.heap.size w w' := by
  unfold offertoryref09_Of.f at h
  split at h
  case isFalse => cases h
  rename_i hr
  have H := Aside0.mk h
  clear h
  obtain ⟨⟨h0, h1⟩, l0, l1⟩ := hr
  have hu29 := Try.underlying45
  have hu25 := Try.underlying27
  go_enter Try.func18, Try.ntmps18
  go_wp2
  refine wp_loop_rounds 5 ?_
  rw [rounds_succ]
  go_wp2
  rw [rounds_succ]
  go_wp2
  rw [rounds_succ]
  go_wp2
  rw [rounds_succ]
  go_wp2
  rw [rounds_succ]
  go_wp2
  refine bodyPost_ret (v := .agg #[.int .u32 (bits .and .u64 a0_1 65535 % 4294967296), .int .u32 (bits .and .u64 (a0_1 / 65536) 65535 % 4294967296), .int .u32 (bits .and .u64 (a0_1 / 4294967296) 65535 % 4294967296), .int .u32 (bits .and .u64 (a0_1 / 281474976710656) 65535 % 4294967296), .int .u32 (bits .and .u64 a0_0 65535 % 4294967296), .int .u32 (bits .and .u64 (a0_0 / 65536) 65535 % 4294967296), .int .u32 (bits .and .u64 (a0_0 / 4294967296) 65535 % 4294967296), .int .u32 (bits .and .u64 (a0_0 / 281474976710656) 65535 % 4294967296)]) (by simp [results, Try.results18, go_sem]) rfl ⟨?_, ?_⟩
  · have h := H.out
    simp only [Option.some.injEq, digs, Prod.mk.injEq] at h
    obtain ⟨rfl, rfl, rfl, rfl, rfl, rfl, rfl, rfl⟩ := h
    have e0 : bits .and .u64 a0_1 65535 % 4294967296 = bigD (a0_1 + a0_0 * 18446744073709551616) 0 := by rw [and_65535 (by omega) (by omega)]; simp only [bigD]; omega
    have e1 : bits .and .u64 (a0_1 / 65536) 65535 % 4294967296 = bigD (a0_1 + a0_0 * 18446744073709551616) 1 := by rw [and_65535 (by omega) (by omega)]; simp only [bigD]; omega
    have e2 : bits .and .u64 (a0_1 / 4294967296) 65535 % 4294967296 = bigD (a0_1 + a0_0 * 18446744073709551616) 2 := by rw [and_65535 (by omega) (by omega)]; simp only [bigD]; omega
    have e3 : bits .and .u64 (a0_1 / 281474976710656) 65535 % 4294967296 = bigD (a0_1 + a0_0 * 18446744073709551616) 3 := by rw [and_65535 (by omega) (by omega)]; simp only [bigD]; omega
    have e4 : bits .and .u64 a0_0 65535 % 4294967296 = bigD (a0_1 + a0_0 * 18446744073709551616) 4 := by rw [and_65535 (by omega) (by omega)]; simp only [bigD]; omega
    have e5 : bits .and .u64 (a0_0 / 65536) 65535 % 4294967296 = bigD (a0_1 + a0_0 * 18446744073709551616) 5 := by rw [and_65535 (by omega) (by omega)]; simp only [bigD]; omega
    have e6 : bits .and .u64 (a0_0 / 4294967296) 65535 % 4294967296 = bigD (a0_1 + a0_0 * 18446744073709551616) 6 := by rw [and_65535 (by omega) (by omega)]; simp only [bigD]; omega
    have e7 : bits .and .u64 (a0_0 / 281474976710656) 65535 % 4294967296 = bigD (a0_1 + a0_0 * 18446744073709551616) 7 := by rw [and_65535 (by omega) (by omega)]; simp only [bigD]; omega
    rw [e0, e1, e2, e3, e4, e5, e6, e7]
  · repeat (first | (with_reducible exact Below.refl _ _) | apply below_alloc)


/-! ### offertoryref09_Add: function 31 -/
/-- Digits of a sum, and what is carried. -/
def carryAt (A B : List Int) : Nat → Int
  | 0 => 0
  | k + 1 => (rd A k + rd B k + carryAt A B k) / 65536
def digAt (A B : List Int) (k : Nat) : Int := (rd A k + rd B k + carryAt A B k) % 65536
theorem carry_in {A B : List Int} (hA : Small A) (hB : Small B) : ∀ k, 0 ≤ carryAt A B k ∧ carryAt A B k ≤ 1
  | 0 => by simp [carryAt]
  | k + 1 => by
    have := hA.2 k; have := hB.2 k; have := carry_in hA hB k
    simp only [carryAt]; omega
/-- The array behind k rounds. -/
def sumS (A B : List Int) (k : Nat) : List Int := (List.range 8).map (fun j => if j < k then digAt A B j else rd A j)
theorem sumS_length (A B : List Int) (k : Nat) : (sumS A B k).length = 8 := by simp [sumS]
theorem sumS_get (A B : List Int) (k : Nat) (h : k < 8) : rd (sumS A B k) (k : Int) = rd A k := by
  simp [sumS, rd, List.getD, h]
theorem sumS_zero {A : List Int} (hA : A.length = 8) (B : List Int) : sumS A B 0 = A := by
  refine List.ext_getElem (by simp [sumS, hA]) (fun i h1 h2 => ?_)
  simp [sumS, rd, List.getD, List.getElem?_eq_getElem h2]
theorem sumS_set (A B : List Int) (k : Nat) (h : k < 8) : (sumS A B k).set k (digAt A B k) = sumS A B (k + 1) := by
  refine List.ext_getElem (by simp [sumS]) (fun i h1 h2 => ?_)
  simp only [List.getElem_set, sumS, List.getElem_map, List.getElem_range]
  by_cases e : k = i
  · subst e; simp
  · rw [if_neg e]
    by_cases h3 : i < k
    · rw [if_pos h3, if_pos (by omega)]
    · rw [if_neg h3, if_neg (by omega)]
def AddI (w : World) (ga gb gr : Nat) (A B : List Int) (k : Nat) (w' : World) : Prop :=
  Below w.heap.size w w' ∧ ArrAt w' ga 45 .u32 (sumS A B k) ∧ ArrAt w' gb 45 .u32 B ∧ ArrAt w' gr 45 .u32 [0, 0, 0, 0, 0, 0, 0, 0]
set_option maxHeartbeats 800000 in
set_option maxRecDepth 100000 in
theorem offertoryref09_Add.calls0 (A B : List Int) (hA : Small A) (hB : Small B) (w : World) :
    Calls Try.prog 31 #[.agg (nums .u32 A).toArray, .agg (nums .u32 B).toArray] w fun e w' => e = .returned (.agg (nums .u32 (sumS A B 8)).toArray) ∧ Below w.heap.size w w' := by
  have hu29 := Try.underlying45
  go_enter Try.func31, Try.ntmps31
  go_wp2
  go_loopw [5, 6] (fun c i w' => ∃ k : Nat, k ≤ 8 ∧ c = .int .u32 (carryAt A B k) ∧ i = .int .i64 k ∧ AddI w w.heap.size (w.heap.size + 1) (w.heap.size + 1 + 1) A B k w') (fun _ i _ => 8 - (intOf i).toNat)
  case atStart =>
    refine ⟨0, by omega, rfl, rfl, ?_, ?_, ?_, ?_⟩
    · repeat (first | (with_reducible exact Below.refl _ _) | apply below_alloc)
    · rw [sumS_zero hA.1]
      exact blk_alloc (blk_alloc (blk_new _ _) _) _
    · have h := blk_alloc (blk_new (w.alloc (.cells (nums .u32 A).toArray 45)) (.cells (nums .u32 B).toArray 45)) (.cells (nums .u32 [0, 0, 0, 0, 0, 0, 0, 0]).toArray 45)
      rw [alloc_size] at h
      exact h
    · have h := blk_new ((w.alloc (.cells (nums .u32 A).toArray 45)).alloc (.cells (nums .u32 B).toArray 45)) (.cells (nums .u32 [0, 0, 0, 0, 0, 0, 0, 0]).toArray 45)
      rw [alloc_size, alloc_size] at h
      exact h
  case round =>
    obtain ⟨k, hk, rfl, rfl, hb, ha1, ha2, ha3⟩ := hrel
    by_cases hlt : k < 8
    · have g1 := ha1.get k (by rw [sumS_length]; exact hlt)
      rw [sumS_get A B k hlt] at g1
      have g2 := ha2.get k (by rw [hB.1]; exact hlt)
      have f1 := ha1.frz k
      have bA := hA.2 k
      have bB := hB.2 k
      have bc := carry_in hA hB k
      have HB := Aside0.mk hb
      have H1 := Aside0.mk ha1
      have H2 := Aside0.mk ha2
      have H3 := Aside0.mk ha3
      clear hb ha1 ha2 ha3
      go_wp2
      go_quiet (fail)
      go_wp2
      go_roundw
      case rel =>
        refine ⟨k + 1, by omega, rfl, by go_num, ?_, ?_, ?_, ?_⟩
        · exact below_set (pw_below_drewN HB.out nq) (Nat.le_refl _)
        · have h := (H1.out.drew nq).put k (digAt A B k)
          rw [sumS_set A B k hlt] at h
          exact h
        · exact (H2.out.drew nq).far (by omega)
        · exact (H3.out.drew nq).far (by omega)
      case measure => simp [intOf]; omega
    · have e8 : k = 8 := by omega
      subst e8
      have HB := Aside0.mk hb
      have H3 := Aside0.mk ha3
      have c0 := ha1.get 0 (by rw [sumS_length]; decide)
      have d0 := ha3.get 0 (by decide)
      have f0 := ha3.frz 0
      have c1 := ha1.get 1 (by rw [sumS_length]; decide)
      have d1 := ha3.get 1 (by decide)
      have f1 := ha3.frz 1
      have c2 := ha1.get 2 (by rw [sumS_length]; decide)
      have d2 := ha3.get 2 (by decide)
      have f2 := ha3.frz 2
      have c3 := ha1.get 3 (by rw [sumS_length]; decide)
      have d3 := ha3.get 3 (by decide)
      have f3 := ha3.frz 3
      have c4 := ha1.get 4 (by rw [sumS_length]; decide)
      have d4 := ha3.get 4 (by decide)
      have f4 := ha3.frz 4
      have c5 := ha1.get 5 (by rw [sumS_length]; decide)
      have d5 := ha3.get 5 (by decide)
      have f5 := ha3.frz 5
      have c6 := ha1.get 6 (by rw [sumS_length]; decide)
      have d6 := ha3.get 6 (by decide)
      have f6 := ha3.frz 6
      have c7 := ha1.get 7 (by rw [sumS_length]; decide)
      have d7 := ha3.get 7 (by decide)
      have f7 := ha3.frz 7
      clear hb ha1 ha2 ha3
      go_wp2
      have hp := H3.out.put8 (sumS A B 8) (sumS_length A B 8) (by decide)
      refine bodyPost_ret (results_cell_row rfl _ _ (w.heap.size + 1 + 1) 45 (nums .u32 (sumS A B 8)).toArray (0, 0) _ rfl hp Try.underlying45 rfl (by rw [nums_size, sumS_length]; kernel_rfl)) rfl ⟨rfl, ?_⟩
      repeat (first | (with_reducible exact HB.out) | (refine below_set ?_ (by omega)))
def offertoryref09_Add.f (a0 a1 a2 a3 a4 a5 a6 a7 b0 b1 b2 b3 b4 b5 b6 b7 : Int) : Option (Int × Int × Int × Int × Int × Int × Int × Int) :=
  if Dig a0 a1 a2 a3 a4 a5 a6 a7 ∧ Dig b0 b1 b2 b3 b4 b5 b6 b7 then some (digs (bigV a0 a1 a2 a3 a4 a5 a6 a7 + bigV b0 b1 b2 b3 b4 b5 b6 b7)) else none
set_option maxRecDepth 100000 in
theorem offertoryref09_Add.calls (a0 a1 a2 a3 a4 a5 a6 a7 b0 b1 b2 b3 b4 b5 b6 b7 r1 r2 r3 r4 r5 r6 r7 r8 : Int) (w : World) (h : offertoryref09_Add.f a0 a1 a2 a3 a4 a5 a6 a7 b0 b1 b2 b3 b4 b5 b6 b7 = some (r1, r2, r3, r4, r5, r6, r7, r8)) :
    Calls Try.prog 31 #[.agg #[.int .u32 a0, .int .u32 a1, .int .u32 a2, .int .u32 a3, .int .u32 a4, .int .u32 a5, .int .u32 a6, .int .u32 a7], .agg #[.int .u32 b0, .int .u32 b1, .int .u32 b2, .int .u32 b3, .int .u32 b4, .int .u32 b5, .int .u32 b6, .int .u32 b7]] w fun e w' => e = .returned (.agg #[.int .u32 r1, .int .u32 r2, .int .u32 r3, .int .u32 r4, .int .u32 r5, .int .u32 r6, .int .u32 r7, .int .u32 r8]) ∧ Below w.heap.size w w' := by
  unfold offertoryref09_Add.f at h
  split at h
  case isFalse => cases h
  rename_i hr
  have hA : Small [a0, a1, a2, a3, a4, a5, a6, a7] := hr.1.small
  have hB : Small [b0, b1, b2, b3, b4, b5, b6, b7] := hr.2.small
  refine (offertoryref09_Add.calls0 [a0, a1, a2, a3, a4, a5, a6, a7] [b0, b1, b2, b3, b4, b5, b6, b7] hA hB w).mono ?_
  rintro e w' ⟨rfl, hb⟩
  refine ⟨?_, hb⟩
  simp only [Option.some.injEq, digs, Prod.mk.injEq] at h
  obtain ⟨rfl, rfl, rfl, rfl, rfl, rfl, rfl, rfl⟩ := h
  obtain ⟨hr1, hr2⟩ := hr
  unfold Dig at hr1 hr2
  have hc1 : carryAt [a0, a1, a2, a3, a4, a5, a6, a7] [b0, b1, b2, b3, b4, b5, b6, b7] 1 = (a0 + b0 + carryAt [a0, a1, a2, a3, a4, a5, a6, a7] [b0, b1, b2, b3, b4, b5, b6, b7] 0) / 65536 := rfl
  have hc2 : carryAt [a0, a1, a2, a3, a4, a5, a6, a7] [b0, b1, b2, b3, b4, b5, b6, b7] 2 = (a1 + b1 + carryAt [a0, a1, a2, a3, a4, a5, a6, a7] [b0, b1, b2, b3, b4, b5, b6, b7] 1) / 65536 := rfl
  have hc3 : carryAt [a0, a1, a2, a3, a4, a5, a6, a7] [b0, b1, b2, b3, b4, b5, b6, b7] 3 = (a2 + b2 + carryAt [a0, a1, a2, a3, a4, a5, a6, a7] [b0, b1, b2, b3, b4, b5, b6, b7] 2) / 65536 := rfl
  have hc4 : carryAt [a0, a1, a2, a3, a4, a5, a6, a7] [b0, b1, b2, b3, b4, b5, b6, b7] 4 = (a3 + b3 + carryAt [a0, a1, a2, a3, a4, a5, a6, a7] [b0, b1, b2, b3, b4, b5, b6, b7] 3) / 65536 := rfl
  have hc5 : carryAt [a0, a1, a2, a3, a4, a5, a6, a7] [b0, b1, b2, b3, b4, b5, b6, b7] 5 = (a4 + b4 + carryAt [a0, a1, a2, a3, a4, a5, a6, a7] [b0, b1, b2, b3, b4, b5, b6, b7] 4) / 65536 := rfl
  have hc6 : carryAt [a0, a1, a2, a3, a4, a5, a6, a7] [b0, b1, b2, b3, b4, b5, b6, b7] 6 = (a5 + b5 + carryAt [a0, a1, a2, a3, a4, a5, a6, a7] [b0, b1, b2, b3, b4, b5, b6, b7] 5) / 65536 := rfl
  have hc7 : carryAt [a0, a1, a2, a3, a4, a5, a6, a7] [b0, b1, b2, b3, b4, b5, b6, b7] 7 = (a6 + b6 + carryAt [a0, a1, a2, a3, a4, a5, a6, a7] [b0, b1, b2, b3, b4, b5, b6, b7] 6) / 65536 := rfl
  have hc8 : carryAt [a0, a1, a2, a3, a4, a5, a6, a7] [b0, b1, b2, b3, b4, b5, b6, b7] 8 = (a7 + b7 + carryAt [a0, a1, a2, a3, a4, a5, a6, a7] [b0, b1, b2, b3, b4, b5, b6, b7] 7) / 65536 := rfl
  have hd0 : digAt [a0, a1, a2, a3, a4, a5, a6, a7] [b0, b1, b2, b3, b4, b5, b6, b7] 0 = (a0 + b0 + carryAt [a0, a1, a2, a3, a4, a5, a6, a7] [b0, b1, b2, b3, b4, b5, b6, b7] 0) % 65536 := rfl
  have hd1 : digAt [a0, a1, a2, a3, a4, a5, a6, a7] [b0, b1, b2, b3, b4, b5, b6, b7] 1 = (a1 + b1 + carryAt [a0, a1, a2, a3, a4, a5, a6, a7] [b0, b1, b2, b3, b4, b5, b6, b7] 1) % 65536 := rfl
  have hd2 : digAt [a0, a1, a2, a3, a4, a5, a6, a7] [b0, b1, b2, b3, b4, b5, b6, b7] 2 = (a2 + b2 + carryAt [a0, a1, a2, a3, a4, a5, a6, a7] [b0, b1, b2, b3, b4, b5, b6, b7] 2) % 65536 := rfl
  have hd3 : digAt [a0, a1, a2, a3, a4, a5, a6, a7] [b0, b1, b2, b3, b4, b5, b6, b7] 3 = (a3 + b3 + carryAt [a0, a1, a2, a3, a4, a5, a6, a7] [b0, b1, b2, b3, b4, b5, b6, b7] 3) % 65536 := rfl
  have hd4 : digAt [a0, a1, a2, a3, a4, a5, a6, a7] [b0, b1, b2, b3, b4, b5, b6, b7] 4 = (a4 + b4 + carryAt [a0, a1, a2, a3, a4, a5, a6, a7] [b0, b1, b2, b3, b4, b5, b6, b7] 4) % 65536 := rfl
  have hd5 : digAt [a0, a1, a2, a3, a4, a5, a6, a7] [b0, b1, b2, b3, b4, b5, b6, b7] 5 = (a5 + b5 + carryAt [a0, a1, a2, a3, a4, a5, a6, a7] [b0, b1, b2, b3, b4, b5, b6, b7] 5) % 65536 := rfl
  have hd6 : digAt [a0, a1, a2, a3, a4, a5, a6, a7] [b0, b1, b2, b3, b4, b5, b6, b7] 6 = (a6 + b6 + carryAt [a0, a1, a2, a3, a4, a5, a6, a7] [b0, b1, b2, b3, b4, b5, b6, b7] 6) % 65536 := rfl
  have hd7 : digAt [a0, a1, a2, a3, a4, a5, a6, a7] [b0, b1, b2, b3, b4, b5, b6, b7] 7 = (a7 + b7 + carryAt [a0, a1, a2, a3, a4, a5, a6, a7] [b0, b1, b2, b3, b4, b5, b6, b7] 7) % 65536 := rfl
  have hc0 : carryAt [a0, a1, a2, a3, a4, a5, a6, a7] [b0, b1, b2, b3, b4, b5, b6, b7] 0 = 0 := rfl
  have he : sumS [a0, a1, a2, a3, a4, a5, a6, a7] [b0, b1, b2, b3, b4, b5, b6, b7] 8 = [digAt [a0, a1, a2, a3, a4, a5, a6, a7] [b0, b1, b2, b3, b4, b5, b6, b7] 0, digAt [a0, a1, a2, a3, a4, a5, a6, a7] [b0, b1, b2, b3, b4, b5, b6, b7] 1, digAt [a0, a1, a2, a3, a4, a5, a6, a7] [b0, b1, b2, b3, b4, b5, b6, b7] 2, digAt [a0, a1, a2, a3, a4, a5, a6, a7] [b0, b1, b2, b3, b4, b5, b6, b7] 3, digAt [a0, a1, a2, a3, a4, a5, a6, a7] [b0, b1, b2, b3, b4, b5, b6, b7] 4, digAt [a0, a1, a2, a3, a4, a5, a6, a7] [b0, b1, b2, b3, b4, b5, b6, b7] 5, digAt [a0, a1, a2, a3, a4, a5, a6, a7] [b0, b1, b2, b3, b4, b5, b6, b7] 6, digAt [a0, a1, a2, a3, a4, a5, a6, a7] [b0, b1, b2, b3, b4, b5, b6, b7] 7] := rfl
  rw [he]
  generalize carryAt [a0, a1, a2, a3, a4, a5, a6, a7] [b0, b1, b2, b3, b4, b5, b6, b7] 0 = c0 at *
  generalize carryAt [a0, a1, a2, a3, a4, a5, a6, a7] [b0, b1, b2, b3, b4, b5, b6, b7] 1 = c1 at *
  generalize carryAt [a0, a1, a2, a3, a4, a5, a6, a7] [b0, b1, b2, b3, b4, b5, b6, b7] 2 = c2 at *
  generalize carryAt [a0, a1, a2, a3, a4, a5, a6, a7] [b0, b1, b2, b3, b4, b5, b6, b7] 3 = c3 at *
  generalize carryAt [a0, a1, a2, a3, a4, a5, a6, a7] [b0, b1, b2, b3, b4, b5, b6, b7] 4 = c4 at *
  generalize carryAt [a0, a1, a2, a3, a4, a5, a6, a7] [b0, b1, b2, b3, b4, b5, b6, b7] 5 = c5 at *
  generalize carryAt [a0, a1, a2, a3, a4, a5, a6, a7] [b0, b1, b2, b3, b4, b5, b6, b7] 6 = c6 at *
  generalize carryAt [a0, a1, a2, a3, a4, a5, a6, a7] [b0, b1, b2, b3, b4, b5, b6, b7] 7 = c7 at *
  generalize carryAt [a0, a1, a2, a3, a4, a5, a6, a7] [b0, b1, b2, b3, b4, b5, b6, b7] 8 = c8 at *
  generalize digAt [a0, a1, a2, a3, a4, a5, a6, a7] [b0, b1, b2, b3, b4, b5, b6, b7] 0 = d0 at *
  generalize digAt [a0, a1, a2, a3, a4, a5, a6, a7] [b0, b1, b2, b3, b4, b5, b6, b7] 1 = d1 at *
  generalize digAt [a0, a1, a2, a3, a4, a5, a6, a7] [b0, b1, b2, b3, b4, b5, b6, b7] 2 = d2 at *
  generalize digAt [a0, a1, a2, a3, a4, a5, a6, a7] [b0, b1, b2, b3, b4, b5, b6, b7] 3 = d3 at *
  generalize digAt [a0, a1, a2, a3, a4, a5, a6, a7] [b0, b1, b2, b3, b4, b5, b6, b7] 4 = d4 at *
  generalize digAt [a0, a1, a2, a3, a4, a5, a6, a7] [b0, b1, b2, b3, b4, b5, b6, b7] 5 = d5 at *
  generalize digAt [a0, a1, a2, a3, a4, a5, a6, a7] [b0, b1, b2, b3, b4, b5, b6, b7] 6 = d6 at *
  generalize digAt [a0, a1, a2, a3, a4, a5, a6, a7] [b0, b1, b2, b3, b4, b5, b6, b7] 7 = d7 at *
  unfold bigV at *
  have e0 : d0 = bigD (bigV a0 a1 a2 a3 a4 a5 a6 a7 + bigV b0 b1 b2 b3 b4 b5 b6 b7) 0 := by simp only [bigD, bigV]; omega
  have e1 : d1 = bigD (bigV a0 a1 a2 a3 a4 a5 a6 a7 + bigV b0 b1 b2 b3 b4 b5 b6 b7) 1 := by simp only [bigD, bigV]; omega
  have e2 : d2 = bigD (bigV a0 a1 a2 a3 a4 a5 a6 a7 + bigV b0 b1 b2 b3 b4 b5 b6 b7) 2 := by simp only [bigD, bigV]; omega
  have e3 : d3 = bigD (bigV a0 a1 a2 a3 a4 a5 a6 a7 + bigV b0 b1 b2 b3 b4 b5 b6 b7) 3 := by simp only [bigD, bigV]; omega
  have e4 : d4 = bigD (bigV a0 a1 a2 a3 a4 a5 a6 a7 + bigV b0 b1 b2 b3 b4 b5 b6 b7) 4 := by simp only [bigD, bigV]; omega
  have e5 : d5 = bigD (bigV a0 a1 a2 a3 a4 a5 a6 a7 + bigV b0 b1 b2 b3 b4 b5 b6 b7) 5 := by simp only [bigD, bigV]; omega
  have e6 : d6 = bigD (bigV a0 a1 a2 a3 a4 a5 a6 a7 + bigV b0 b1 b2 b3 b4 b5 b6 b7) 6 := by simp only [bigD, bigV]; omega
  have e7 : d7 = bigD (bigV a0 a1 a2 a3 a4 a5 a6 a7 + bigV b0 b1 b2 b3 b4 b5 b6 b7) 7 := by simp only [bigD, bigV]; omega
  rw [e0, e1, e2, e3, e4, e5, e6, e7]
  rfl


end Go.Proofs.Ytdpekjffjobabaa.PAll
