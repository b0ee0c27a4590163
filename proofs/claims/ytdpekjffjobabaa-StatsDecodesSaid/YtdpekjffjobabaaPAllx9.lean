/- The Go functions that the laws reach, as Lean functions, and that each call comes to what its function says. Written by a program of this session (a turned copy of the kit's print). No condition beyond those that each theorem states. -/
import Derived.Test.YtdpekjffjobabaaPAllx0
import Derived.Test.YtdpekjffjobabaaPAllx3
namespace Go.Proofs.Ytdpekjffjobabaa.PAll
open Go.RowKit Go.Proofs.YtdpekjffjobabaaW.PrintWords Go.Proofs.YtdpekjffjobabaaW.PrintLast Go.Proofs.YtdpekjffjobabaaW.PrintMore
attribute [local go_sem] max2_int min2_int max_two min_two max_three min_three max_four min_four   -- for this text's walks alone
set_option linter.unusedVariables false
set_option linter.unusedSimpArgs false

/-! ### offertoryref09_Bits: function 39 -/
def offertoryref09_Bits.l0 : Nat → Int → Int → Int → Int → List Int → Option (Int)
  | 0, _, _, _, _, _ => none
  | k + 1, x3, x235000, x235001, x235002, x235003 => if 0 ≤ (IntKind.u64.wrap (x3)) then (if (wrap64 (x235001 - x235000)) ≥ (shl .i64 1 (IntKind.u64.wrap (x3))) then (offertoryref09_Bits.l0 k (wrap64 (x3 + 1)) x235000 x235001 x235002 x235003) else (some x3)) else (none)
def offertoryref09_Bits.f (k : Nat) (a0_0 : Int) (a0_1 : Int) (a0_2 : Int) (l0_3 : List Int) : Option (Int) := offertoryref09_Bits.l0 k 1 a0_0 a0_1 a0_2 l0_3
theorem offertoryref09_Bits.mono_l : ∀ k, (∀ y0 y1 y2 y3 y4, LeO (offertoryref09_Bits.l0 k y0 y1 y2 y3 y4) (offertoryref09_Bits.l0 (k + 1) y0 y1 y2 y3 y4))
  | 0 => fun _ _ _ _ _ r h => by simp [offertoryref09_Bits.l0] at h
  | k + 1 => by
    have ih0 := offertoryref09_Bits.mono_l k
    · intro y0 y1 y2 y3 y4
      unfold offertoryref09_Bits.l0
      repeat' first
      | (with_reducible exact ih0 _ _ _ _ _)
      | (with_reducible exact LeO.refl _)
      | (with_reducible exact LeO.none _)
      | (with_reducible refine LeO.ite ?_ ?_)
      | (with_reducible refine LeO.bind ?_ (fun _ => ?_))
      | exact ih0 _ _ _ _ _
      | exact LeO.none _
      | refine LeO.ite ?_ ?_
      | refine LeO.bind ?_ (fun _ => ?_)
theorem offertoryref09_Bits.mono : ∀ a0 a1 a2 a3 k, LeO (offertoryref09_Bits.f k a0 a1 a2 a3) (offertoryref09_Bits.f (k + 1) a0 a1 a2 a3) := by
  intro a0 a1 a2 a3 k
  have ih0 := offertoryref09_Bits.mono_l k
  unfold offertoryref09_Bits.f
  repeat' first
      | (with_reducible exact ih0 _ _ _ _ _)
      | (with_reducible exact LeO.refl _)
      | (with_reducible exact LeO.none _)
      | (with_reducible refine LeO.ite ?_ ?_)
      | (with_reducible refine LeO.bind ?_ (fun _ => ?_))
      | exact ih0 _ _ _ _ _
      | exact LeO.none _
      | refine LeO.ite ?_ ?_
      | refine LeO.bind ?_ (fun _ => ?_)
set_option maxHeartbeats 8000000 in
set_option maxRecDepth 100000 in
theorem offertoryref09_Bits.calls (k : Nat) (a0_0 : Int) (a0_1 : Int) (a0_2 : Int) (A0_3 : Option Addr) (c0_3 : Nat) (l0_3 : List Int) (r : Int) (w : World) (hr0_3 : Kd.C (Kd.int .i64) w A0_3 l0_3.length l0_3) (hc0_3 : l0_3.length ≤ c0_3) (h : offertoryref09_Bits.f k a0_0 a0_1 a0_2 l0_3 = some r) :
    Calls Try.prog 39 #[.agg #[.int .i64 a0_0, .int .i64 a0_1, .int .i64 a0_2, .slice A0_3 l0_3.length c0_3]] w fun e w' => e = .returned (.int .i64 r) ∧ Below w.heap.size w w' := by
  have hu24 := Try.underlying24
  have HR0_3 := Aside0.mk hr0_3
  have HC0_3 := Aside0.mk hc0_3
  clear hr0_3 hc0_3
  have HB := Aside0.mk (Below.refl w.heap.size w)
  have H : (offertoryref09_Bits.l0 k 1 a0_0 a0_1 a0_2 l0_3) = some r := h
  clear h
  have H' := Aside0.mk H
  clear H
  go_enter Try.func39, Try.ntmps39
  go_wp2_with (first | ((with_reducible refine gate_dst (N := 1) rfl ?_); refine box_event ?hg (N := 1) ?hd (cs := #[.int .i64 a0_0, .int .i64 a0_1, .int .i64 a0_2, .slice A0_3 l0_3.length c0_3]) (t := 24) ?hr ?_; (case hd => rfl); (case hg => rfl); (case hr => first | (go_simp; done) | (go_simp; rfl)); intro gb234 hg w2 hbox hb; have n0_ := Aside0.mk (below_step (by repeat (first | (with_reducible first | exact HB.out | apply below_alloc | apply pw_below_drewN | apply below_drew1) | exact HB.out)) hb); have n1_ := Aside0.mk (hbox); have n2_ := Aside0.mk ((by rw [hg]; exact (below_size (by repeat (first | (with_reducible first | exact HB.out | apply below_alloc | apply pw_below_drewN | apply below_drew1) | exact HB.out))) : w.heap.size ≤ gb234)); have n3_ := Aside0.mk ((by rw [hg]; exact (below_size (by repeat (first | (with_reducible first | exact HB.out | apply below_alloc | apply pw_below_drewN | apply below_drew1) | exact HB.out))) : w.heap.size ≤ gb234)); clear HB; have HB := n0_; have BK234 := n1_; have GW234 := n2_; have GE234 := n3_; clear n0_ n1_ n2_ n3_; clear hb hbox hg))
  go_loopg [3] k (fun kq v3 w' => ∃ (x3_1 : Int), v3 = .int .i64 x3_1 ∧ Aside0 (offertoryref09_Bits.l0 kq x3_1 a0_0 a0_1 a0_2 l0_3 = some r) ∧ Aside0 (kq ≤ k) ∧ Aside0 (w'.heap[gb234]? = some (.cells #[.int .i64 a0_0, .int .i64 a0_1, .int .i64 a0_2, (.slice A0_3 l0_3.length c0_3)] 24 (0, 0))) ∧ Aside0 (Below w.heap.size w w'))
  case atStart => exact ⟨(1), (by first | rfl | (simp; done) | (simp [*]; done)), H', ⟨Nat.le_refl _⟩, ⟨by (with_reducible repeat (first | refine blk_drewN ?_ _ | refine blk_drew ?_ | refine blk_alloc ?_ _)); exact BK234.out⟩, ⟨by repeat (first | (with_reducible first | exact HB.out | apply below_alloc | apply pw_below_drewN | apply below_drew1 | refine below_set ?_ GE234.out) | exact HB.out)⟩⟩
  case round =>
    clear H'
    try clear p2
    obtain ⟨x3_1, rfl, HA, HK1, BK234, HB⟩ := hrel
    cases gk with
    | zero => exact absurd HA.out (by simp [offertoryref09_Bits.l0])
    | succ k1 =>
      have H := HA.out
      clear HA
      simp only [offertoryref09_Bits.l0] at H
      obtain ⟨ji3, hji3⟩ : ∃ j_ : Int, (IntKind.u64.wrap (x3_1)) = j_ := ⟨_, rfl⟩
      replace H : (if 0 ≤ (ji3) then (if (wrap64 (a0_1 - a0_0)) ≥ (shl .i64 1 (ji3)) then (offertoryref09_Bits.l0 k1 (wrap64 (x3_1 + 1)) a0_0 a0_1 a0_2 l0_3) else (some x3_1)) else (none)) = some r := by first | (rw [hji3] at H; exact H) | (simp only [hji3] at H ⊢; exact H)
      by_cases c4 : 0 ≤ (ji3)
      · rw [if_pos c4] at H
        have c4b0 := eq_true c4
        have c4b1 : decide (0 ≤ (ji3)) = true := decide_eq_true c4
        clear c4
        obtain ⟨ji5, hji5⟩ : ∃ j_ : Int, (shl .i64 1 (ji3)) = j_ := ⟨_, rfl⟩
        replace H : (if (wrap64 (a0_1 - a0_0)) ≥ (ji5) then (offertoryref09_Bits.l0 k1 (wrap64 (x3_1 + 1)) a0_0 a0_1 a0_2 l0_3) else (some x3_1)) = some r := by first | (rw [hji5] at H; exact H) | (simp only [hji5] at H ⊢; exact H)
        have hji5_ : (IntKind.i64.wrap (1 * 2 ^ min (ji3).toNat 64)) = ji5 := hji5
        have hji5z : (ji3) ≤ 64 → (IntKind.i64.wrap (1 * 2 ^ (ji3).toNat)) = ji5 := shl_small hji5
        have hji5u : (IntKind.i64.wrap (2 ^ min (ji3).toNat 64)) = ji5 := by have h_ := hji5_; rw [Int.one_mul] at h_; exact h_
        have hji5v : (ji3) ≤ 64 → (IntKind.i64.wrap (2 ^ (ji3).toNat)) = ji5 := fun hle_ => by have h_ := hji5z hle_; rw [Int.one_mul] at h_; exact h_
        have hji5y : (wrap64 (1 * 2 ^ min (ji3).toNat 64)) = ji5 := (i64_w _).symm.trans hji5_
        have hji5x : (ji3) ≤ 64 → (wrap64 (1 * 2 ^ (ji3).toNat)) = ji5 := fun h_ => (i64_w _).symm.trans (hji5z h_)
        by_cases c6 : (wrap64 (a0_1 - a0_0)) ≥ (ji5)
        · rw [if_pos c6] at H
          have c6b0 : decide ((ji5) ≤ (wrap64 (a0_1 - a0_0))) = true := decide_eq_true c6
          clear c6
          have H' := Aside0.mk H
          clear H
          have hcz7_0 : wr.cell? ⟨gb234, 0, none⟩ = some (.int .i64 a0_0) := (blk_cell BK234.out 0).trans rfl
          have hcz7_1 : wr.cell? ⟨gb234, 1, none⟩ = some (.int .i64 a0_1) := (blk_cell BK234.out 1).trans rfl
          have hcz7_2 : wr.cell? ⟨gb234, 2, none⟩ = some (.int .i64 a0_2) := (blk_cell BK234.out 2).trans rfl
          have hcz7_3 : wr.cell? ⟨gb234, 3, none⟩ = some (.slice A0_3 l0_3.length c0_3) := (blk_cell BK234.out 3).trans rfl
          have hfz7_0 := blk_frozen BK234.out 0
          have hfz7_1 := blk_frozen BK234.out 1
          have hfz7_2 := blk_frozen BK234.out 2
          have hfz7_3 := blk_frozen BK234.out 3
          go_wp2
          go_roundg k1
          case measure => have := HK1.out; omega
          case rel => exact ⟨(wrap64 (x3_1 + 1)), (by first | rfl | (simp; done) | (simp [*]; done)), H', ⟨by have := HK1.out; omega⟩, ⟨by (with_reducible repeat (first | refine blk_drewN ?_ _ | refine blk_drew ?_ | refine blk_alloc ?_ _)); exact BK234.out⟩, ⟨by repeat (first | (with_reducible first | exact HB.out | apply below_alloc | apply pw_below_drewN | apply below_drew1 | refine below_set ?_ GE234.out) | exact HB.out)⟩⟩
        · rw [if_neg c6] at H
          have c6b0 : decide ((ji5) ≤ (wrap64 (a0_1 - a0_0))) = false := decide_eq_false c6
          clear c6
          obtain rfl := Option.some.inj H
          have hcz8_0 : wr.cell? ⟨gb234, 0, none⟩ = some (.int .i64 a0_0) := (blk_cell BK234.out 0).trans rfl
          have hcz8_1 : wr.cell? ⟨gb234, 1, none⟩ = some (.int .i64 a0_1) := (blk_cell BK234.out 1).trans rfl
          have hcz8_2 : wr.cell? ⟨gb234, 2, none⟩ = some (.int .i64 a0_2) := (blk_cell BK234.out 2).trans rfl
          have hcz8_3 : wr.cell? ⟨gb234, 3, none⟩ = some (.slice A0_3 l0_3.length c0_3) := (blk_cell BK234.out 3).trans rfl
          have hfz8_0 := blk_frozen BK234.out 0
          have hfz8_1 := blk_frozen BK234.out 1
          have hfz8_2 := blk_frozen BK234.out 2
          have hfz8_3 := blk_frozen BK234.out 3
          go_wp2
          go_ret
          exact ⟨by first | rfl | (simp [errW_none, errW_some] <;> rfl) | (simp only [← hji3, ← hji5]; first | rfl | (simp [errW_none, errW_some] <;> rfl)) | (simp [*, errW_none, errW_some] <;> rfl), by repeat (first | (with_reducible first | exact HB.out | apply below_alloc | apply pw_below_drewN | apply below_drew1 | refine below_set ?_ GE234.out) | exact HB.out)⟩
      · rw [if_neg c4] at H
        exact absurd H (by simp)

/-! ### offertoryref09_Len: function 14 -/
def offertoryref09_Len.f (k : Nat) (a0_0 : Int) (a0_1 : Int) (a0_2 : Int) (l0_3 : List Int) : Option (Int) := (offertoryref09_Bits.f k a0_0 a0_1 a0_2 l0_3).bind fun t236 => (some (wrap64 ((wrap64 ((l0_3.length : Int) + 2)) + (wrap64 (3 * t236)))))
theorem offertoryref09_Len.mono : ∀ a0 a1 a2 a3 k, LeO (offertoryref09_Len.f k a0 a1 a2 a3) (offertoryref09_Len.f (k + 1) a0 a1 a2 a3) := by
  intro a0 a1 a2 a3 k
  unfold offertoryref09_Len.f
  repeat' first
      | (with_reducible exact offertoryref09_Bits.mono _ _ _ _ _)
      | (with_reducible exact LeO.refl _)
      | (with_reducible exact LeO.none _)
      | (with_reducible refine LeO.ite ?_ ?_)
      | (with_reducible refine LeO.bind ?_ (fun _ => ?_))
      | exact offertoryref09_Bits.mono _ _ _ _ _
      | exact LeO.none _
      | refine LeO.ite ?_ ?_
      | refine LeO.bind ?_ (fun _ => ?_)
def offertoryref09_Len.T1 : Bool × List (List Nat × List Nat) := (true, [([], []), ([0], [0]), ([1], [1]), ([2], [2]), ([], []), ([4], [4]), ([5], [5]), ([3, 6], [3, 6]), ([7, 5, 0, 1, 2, 3, 4, 5, 6, 7], [7])])
def offertoryref09_Len.B1 : List Nat := [0, 1, 3, 7, 0, 16, 48, 127, 255]
theorem offertoryref09_Len.tab1 : rtab .any (opsOf Try.f14 1) = offertoryref09_Len.T1 := by kernel_rfl
theorem offertoryref09_Len.bits1 : waitsOk offertoryref09_Len.T1.2 offertoryref09_Len.B1 = true := by kernel_rfl
set_option maxHeartbeats 8000000 in
set_option maxRecDepth 100000 in
theorem offertoryref09_Len.calls (k : Nat) (a0_0 : Int) (a0_1 : Int) (a0_2 : Int) (A0_3 : Option Addr) (c0_3 : Nat) (l0_3 : List Int) (r : Int) (w : World) (hr0_3 : Kd.C (Kd.int .i64) w A0_3 l0_3.length l0_3) (hc0_3 : l0_3.length ≤ c0_3) (h : offertoryref09_Len.f k a0_0 a0_1 a0_2 l0_3 = some r) :
    Calls Try.prog 14 #[.agg #[.int .i64 a0_0, .int .i64 a0_1, .int .i64 a0_2, .slice A0_3 l0_3.length c0_3]] w fun e w' => e = .returned (.int .i64 r) ∧ Below w.heap.size w w' := by
  have hu24 := Try.underlying24
  have HR0_3 := Aside0.mk hr0_3
  have HC0_3 := Aside0.mk hc0_3
  clear hr0_3 hc0_3
  have HB := Aside0.mk (Below.refl w.heap.size w)
  have H : ((offertoryref09_Bits.f k a0_0 a0_1 a0_2 l0_3).bind fun t236 => (some (wrap64 ((wrap64 ((l0_3.length : Int) + 2)) + (wrap64 (3 * t236)))))) = some r := h
  clear h
  replace H := Option.bind_eq_some_iff.mp H
  obtain ⟨t236, A20, H⟩ := H
  replace H : (some (wrap64 ((wrap64 ((l0_3.length : Int) + 2)) + (wrap64 (3 * t236))))) = some r := H
  have A2 := Aside0.mk A20
  clear A20
  obtain rfl := Option.some.inj H
  go_enter Try.func14, Try.ntmps14
  try go_wp2_with (first | ((with_reducible refine gate_dst (N := 1) rfl ?_); refine box_event ?hg (N := 1) ?hd (cs := #[.int .i64 a0_0, .int .i64 a0_1, .int .i64 a0_2, .slice A0_3 l0_3.length c0_3]) (t := 24) ?hr ?_; (case hd => rfl); (case hg => rfl); (case hr => first | (go_simp; done) | (go_simp; rfl)); intro gb235 hg w3 hbox hb; have n0_ := Aside0.mk (below_step (by repeat (first | (with_reducible first | exact HB.out | apply below_alloc | apply pw_below_drewN | apply below_drew1) | exact HB.out)) hb); have n1_ := Aside0.mk (hbox); have n2_ := Aside0.mk ((by rw [hg]; exact (below_size (by repeat (first | (with_reducible first | exact HB.out | apply below_alloc | apply pw_below_drewN | apply below_drew1) | exact HB.out))) : w.heap.size ≤ gb235)); have n3_ := Aside0.mk ((by rw [hg]; exact (below_size (by repeat (first | (with_reducible first | exact HB.out | apply below_alloc | apply pw_below_drewN | apply below_drew1) | exact HB.out))) : w.heap.size ≤ gb235)); clear HB; have HB := n0_; have BK235 := n1_; have GW235 := n2_; have GE235 := n3_; clear n0_ n1_ n2_ n3_; clear hb hbox hg))
  have n0_ := Aside0.mk (blk_drew BK235.out)
  have n1_ := Aside0.mk (below_drew1 HB.out)
  clear BK235
  clear HB
  have BK235 := n0_
  have HB := n1_
  clear n0_ n1_
  refine start_ (n := 9) (S := fun w' => w'.cell? ⟨gb235, 0, none⟩ = some (.int .i64 a0_0) ∧ w'.cell? ⟨gb235, 1, none⟩ = some (.int .i64 a0_1) ∧ w'.cell? ⟨gb235, 2, none⟩ = some (.int .i64 a0_2) ∧ w'.cell? ⟨gb235, 3, none⟩ = some (.slice A0_3 l0_3.length c0_3)) (ds := []) #[false, false, false, false, false, false, false, false, false] (by kernel_rfl) rfl rfl ⟨(blk_cell BK235.out 0).trans rfl, (blk_cell BK235.out 1).trans rfl, (blk_cell BK235.out 2).trans rfl, (blk_cell BK235.out 3).trans rfl⟩ (fun hHeld => ?_); refine with_tabW offertoryref09_Len.tab1 offertoryref09_Len.bits1 (fun HT_ HW_ => ?_)
  generalize w3.drew = w4 at BK235 HB hHeld ⊢
  refine pure_ (i := 0) (N := some 3) (v := ?_) (a' := ?_) #[true, false, false, false, false, false, false, false, false] rfl rfl (any_of HT_.out (by kernel_rfl)) (fun _ _ _ h => h) (Or.inl ⟨by rfl, ?_⟩) ?_ ?_
  rotate_left
  · intro w'
    (try simp only [add_plain] at s0 s1 s2 s3)
    go_simp
    with_reducible rfl
  rotate_left
  · simp only [Act.put, List.setIfInBounds_toArray, List.set_cons_zero, List.set_cons_succ, i64_w, i32_w]
    rfl
  refine take_ (i := 1) (N := some 4) (v := ?_) (a' := ?_) #[true, true, false, false, false, false, false, false, false] rfl rfl (take_ofW HT_.out HW_.out (by kernel_rfl)) (fun _ _ _ h => h) (Or.inl ⟨by rfl, ?_⟩) hHeld ?_ ?_
  rotate_left
  · rintro w' ⟨s0, s1, s2, s3⟩
    (try simp only [add_plain] at s0 s1 s2 s3)
    go_simp
    with_reducible rfl
  rotate_left
  · simp only [Act.put, List.setIfInBounds_toArray, List.set_cons_zero, List.set_cons_succ, i64_w, i32_w]
    rfl
  refine pure_ (i := 2) (N := some 5) (v := ?_) (a' := ?_) #[true, true, true, false, false, false, false, false, false] rfl rfl (any_of HT_.out (by kernel_rfl)) (fun _ _ _ h => h) (Or.inl ⟨by rfl, ?_⟩) ?_ ?_
  rotate_left
  · intro w'
    (try simp only [add_plain] at s0 s1 s2 s3)
    go_simp
    with_reducible rfl
  rotate_left
  · simp only [Act.put, List.setIfInBounds_toArray, List.set_cons_zero, List.set_cons_succ, i64_w, i32_w]
    rfl
  refine pure_ (i := 3) (N := some 6) (v := ?_) (a' := ?_) #[true, true, true, true, false, false, false, false, false] rfl rfl (any_of HT_.out (by kernel_rfl)) (fun _ _ _ h => h) (Or.inl ⟨by rfl, ?_⟩) ?_ ?_
  rotate_left
  · intro w'
    (try simp only [add_plain] at s0 s1 s2 s3)
    go_simp
    with_reducible rfl
  rotate_left
  · simp only [Act.put, List.setIfInBounds_toArray, List.set_cons_zero, List.set_cons_succ, i64_w, i32_w]
    rfl
  refine take_ (i := 4) (N := some 7) (v := ?_) (a' := ?_) #[true, true, true, true, true, false, false, false, false] rfl rfl (take_ofW HT_.out HW_.out (by kernel_rfl)) (fun _ _ _ h => h) (Or.inl ⟨by rfl, ?_⟩) hHeld ?_ ?_
  rotate_left
  · rintro w' ⟨s0, s1, s2, s3⟩
    (try simp only [add_plain] at s0 s1 s2 s3)
    go_simp
    with_reducible rfl
  rotate_left
  · simp only [Act.put, List.setIfInBounds_toArray, List.set_cons_zero, List.set_cons_succ, i64_w, i32_w]
    rfl
  refine one_ (i := 5) (N := some 8) #[true, true, true, true, true, true, false, false, false] rfl rfl (one_of HT_.out (by kernel_rfl)) (by decide) (fun K hK => ?_)
  refine goes_ Try.func39 (by kernel_rfl) rfl #[.agg #[.int .i64 a0_0, .int .i64 a0_1, .int .i64 a0_2, .slice A0_3 l0_3.length c0_3]] (by rfl) rfl rfl (by (try simp only [List.map_toArray, List.map_cons, List.map_nil]); first | done | rfl | (simp only [List.length_drop, List.length_take]; rfl)) ?_
  with_reducible refine (offertoryref09_Bits.calls k a0_0 a0_1 a0_2 _ _ l0_3 t236 _ ?side1 ?side2 A2.out).mono ?_
  (case side1 => repeat (first | exact (Kd.C_below HR0_3.out HB.out) | (with_reducible refine Kd.C_alloc ?_ _) | (with_reducible refine Kd.C_drewN ?_ _) | (with_reducible refine Kd.C_drew ?_)))
  (case side2 => exact HC0_3.out)
  rintro e w5 ⟨rfl, hb⟩
  refine ⟨_, rfl, ?_⟩
  have n0_ := Aside0.mk (blk_below (g := gb235) (o := .cells #[.int .i64 a0_0, .int .i64 a0_1, .int .i64 a0_2, .slice A0_3 l0_3.length c0_3] 24 (0, 0)) (by (with_reducible repeat (first | refine blk_drewN ?_ _ | refine blk_drew ?_ | refine blk_alloc ?_ _)); exact BK235.out) hb)
  have n1_ := Aside0.mk (below_step (by repeat (first | (with_reducible first | exact HB.out | apply below_alloc | apply pw_below_drewN | apply below_drew1 | refine below_set ?_ GE235.out) | exact HB.out)) hb)
  clear BK235
  clear HB
  have BK235 := n0_
  have HB := n1_
  clear n0_ n1_
  (try clear hb)
  (try clear hb2)
  (try clear hk)
  (try clear hi)
  refine hK.out _ _ ⟨(blk_cell BK235.out 0).trans rfl, (blk_cell BK235.out 1).trans rfl, (blk_cell BK235.out 2).trans rfl, (blk_cell BK235.out 3).trans rfl⟩ (fun hHeld => ?_)
  clear hK K
  refine norm_ (a' := ?_) ?_ ?_
  rotate_left
  · show Act.put _ (some 8) _ = _
    simp only [Act.put, List.setIfInBounds_toArray, List.set_cons_zero, List.set_cons_succ, i64_w, i32_w]
    rfl
  refine pure_ (i := 6) (N := some 9) (v := ?_) (a' := ?_) #[true, true, true, true, true, true, true, false, false] rfl rfl (any_of HT_.out (by kernel_rfl)) (fun _ _ _ h => h) (Or.inl ⟨by rfl, ?_⟩) ?_ ?_
  rotate_left
  · intro w'
    (try simp only [add_plain] at s0 s1 s2 s3)
    go_simp
    with_reducible rfl
  rotate_left
  · simp only [Act.put, List.setIfInBounds_toArray, List.set_cons_zero, List.set_cons_succ, i64_w, i32_w]
    rfl
  refine pure_ (i := 7) (N := some 10) (v := ?_) (a' := ?_) #[true, true, true, true, true, true, true, true, false] rfl rfl (any_of HT_.out (by kernel_rfl)) (fun _ _ _ h => h) (Or.inl ⟨by rfl, ?_⟩) ?_ ?_
  rotate_left
  · intro w'
    (try simp only [add_plain] at s0 s1 s2 s3)
    go_simp
    with_reducible rfl
  rotate_left
  · simp only [Act.put, List.setIfInBounds_toArray, List.set_cons_zero, List.set_cons_succ, i64_w, i32_w]
    rfl
  refine pure_ (i := 8) (N := some 2) (v := ?_) (a' := ?_) #[true, true, true, true, true, true, true, true, true] rfl rfl (any_of HT_.out (by kernel_rfl)) (fun _ _ _ h => h) (Or.inl ⟨by rfl, ?_⟩) ?_ ?_
  rotate_left
  · intro w'
    (try simp only [add_plain] at s0 s1 s2 s3)
    go_simp
    with_reducible rfl
  rotate_left
  · simp only [Act.put, List.setIfInBounds_toArray, List.set_cons_zero, List.set_cons_succ, i64_w, i32_w]
    rfl
  refine done_ (done_of HT_.out (by kernel_rfl)) ?_
  try go_wp2
  go_ret
  exact ⟨by first | rfl | (simp [errW_none, errW_some] <;> rfl) | (simp [*, errW_none, errW_some] <;> rfl), by repeat (first | (with_reducible first | exact HB.out | apply below_alloc | apply pw_below_drewN | apply below_drew1 | refine below_set ?_ GE235.out) | exact HB.out)⟩

/-! ### offertoryref09_Add: function 31 -/
/-- Digits of a sum, and what is carried. -/
def carryAt (A B : List Int) : Nat → Int
  | 0 => 0
  | k + 1 => (rd A k + rd B k + carryAt A B k) / 65536
def digAt (A B : List Int) (k : Nat) : Int := (rd A k + rd B k + carryAt A B k) % 65536
theorem carry_in {A B : List Int} (hA : Small A) (hB : Small B) : ∀ k, 0 ≤ carryAt A B k ∧ carryAt A B k ≤ 1
  | 0 => by simp [carryAt]
  | k + 1 => by
    have := hA.2 k; have := hB.2 k; have := carry_in hA hB k
    simp only [carryAt]; omega
/-- The array behind k rounds. -/
def sumS (A B : List Int) (k : Nat) : List Int := (List.range 8).map (fun j => if j < k then digAt A B j else rd A j)
theorem sumS_length (A B : List Int) (k : Nat) : (sumS A B k).length = 8 := by simp [sumS]
theorem sumS_get (A B : List Int) (k : Nat) (h : k < 8) : rd (sumS A B k) (k : Int) = rd A k := by
  simp [sumS, rd, List.getD, h]
theorem sumS_zero {A : List Int} (hA : A.length = 8) (B : List Int) : sumS A B 0 = A := by
  refine List.ext_getElem (by simp [sumS, hA]) (fun i h1 h2 => ?_)
  simp [sumS, rd, List.getD, List.getElem?_eq_getElem h2]
theorem sumS_set (A B : List Int) (k : Nat) (h : k < 8) : (sumS A B k).set k (digAt A B k) = sumS A B (k + 1) := by
  refine List.ext_getElem (by simp [sumS]) (fun i h1 h2 => ?_)
  simp only [List.getElem_set, sumS, List.getElem_map, List.getElem_range]
  by_cases e : k = i
  · subst e; simp
  · rw [if_neg e]
    by_cases h3 : i < k
    · rw [if_pos h3, if_pos (by omega)]
    · rw [if_neg h3, if_neg (by omega)]
def AddI (w : World) (ga gb gr : Nat) (A B : List Int) (k : Nat) (w' : World) : Prop :=
  Below w.heap.size w w' ∧ ArrAt w' ga 45 .u32 (sumS A B k) ∧ ArrAt w' gb 45 .u32 B ∧ ArrAt w' gr 45 .u32 [0, 0, 0, 0, 0, 0, 0, 0]
set_option maxHeartbeats 800000 in
set_option maxRecDepth 100000 in
theorem offertoryref09_Add.calls0 (A B : List Int) (hA : Small A) (hB : Small B) (w : World) :
    Calls Try.prog 31 #[.agg (nums .u32 A).toArray, .agg (nums .u32 B).toArray] w fun e w' => e = .returned (.agg (nums .u32 (sumS A B 8)).toArray) ∧ Below w.heap.size w w' := by
  have hu29 := Try.underlying45
  go_enter Try.func31, Try.ntmps31
  go_wp2
  go_loopw [5, 6] (fun c i w' => ∃ k : Nat, k ≤ 8 ∧ c = .int .u32 (carryAt A B k) ∧ i = .int .i64 k ∧ AddI w w.heap.size (w.heap.size + 1) (w.heap.size + 1 + 1) A B k w') (fun _ i _ => 8 - (intOf i).toNat)
  case atStart =>
    refine ⟨0, by omega, rfl, rfl, ?_, ?_, ?_, ?_⟩
    · repeat (first | (with_reducible exact Below.refl _ _) | apply below_alloc)
    · rw [sumS_zero hA.1]
      exact blk_alloc (blk_alloc (blk_new _ _) _) _
    · have h := blk_alloc (blk_new (w.alloc (.cells (nums .u32 A).toArray 45)) (.cells (nums .u32 B).toArray 45)) (.cells (nums .u32 [0, 0, 0, 0, 0, 0, 0, 0]).toArray 45)
      rw [alloc_size] at h
      exact h
    · have h := blk_new ((w.alloc (.cells (nums .u32 A).toArray 45)).alloc (.cells (nums .u32 B).toArray 45)) (.cells (nums .u32 [0, 0, 0, 0, 0, 0, 0, 0]).toArray 45)
      rw [alloc_size, alloc_size] at h
      exact h
  case round =>
    obtain ⟨k, hk, rfl, rfl, hb, ha1, ha2, ha3⟩ := hrel
    by_cases hlt : k < 8
    · have g1 := ha1.get k (by rw [sumS_length]; exact hlt)
      rw [sumS_get A B k hlt] at g1
      have g2 := ha2.get k (by rw [hB.1]; exact hlt)
      have f1 := ha1.frz k
      have bA := hA.2 k
      have bB := hB.2 k
      have bc := carry_in hA hB k
      have HB := Aside0.mk hb
      have H1 := Aside0.mk ha1
      have H2 := Aside0.mk ha2
      have H3 := Aside0.mk ha3
      clear hb ha1 ha2 ha3
      go_wp2
      go_quiet (fail)
      go_wp2
      go_roundw
      case rel =>
        refine ⟨k + 1, by omega, rfl, by go_num, ?_, ?_, ?_, ?_⟩
        · exact below_set (pw_below_drewN HB.out nq) (Nat.le_refl _)
        · have h := (H1.out.drew nq).put k (digAt A B k)
          rw [sumS_set A B k hlt] at h
          exact h
        · exact (H2.out.drew nq).far (by omega)
        · exact (H3.out.drew nq).far (by omega)
      case measure => simp [intOf]; omega
    · have e8 : k = 8 := by omega
      subst e8
      have HB := Aside0.mk hb
      have H3 := Aside0.mk ha3
      have c0 := ha1.get 0 (by rw [sumS_length]; decide)
      have d0 := ha3.get 0 (by decide)
      have f0 := ha3.frz 0
      have c1 := ha1.get 1 (by rw [sumS_length]; decide)
      have d1 := ha3.get 1 (by decide)
      have f1 := ha3.frz 1
      have c2 := ha1.get 2 (by rw [sumS_length]; decide)
      have d2 := ha3.get 2 (by decide)
      have f2 := ha3.frz 2
      have c3 := ha1.get 3 (by rw [sumS_length]; decide)
      have d3 := ha3.get 3 (by decide)
      have f3 := ha3.frz 3
      have c4 := ha1.get 4 (by rw [sumS_length]; decide)
      have d4 := ha3.get 4 (by decide)
      have f4 := ha3.frz 4
      have c5 := ha1.get 5 (by rw [sumS_length]; decide)
      have d5 := ha3.get 5 (by decide)
      have f5 := ha3.frz 5
      have c6 := ha1.get 6 (by rw [sumS_length]; decide)
      have d6 := ha3.get 6 (by decide)
      have f6 := ha3.frz 6
      have c7 := ha1.get 7 (by rw [sumS_length]; decide)
      have d7 := ha3.get 7 (by decide)
      have f7 := ha3.frz 7
      clear hb ha1 ha2 ha3
      go_wp2
      have hp := H3.out.put8 (sumS A B 8) (sumS_length A B 8) (by decide)
      refine bodyPost_ret (results_cell_row rfl _ _ (w.heap.size + 1 + 1) 45 (nums .u32 (sumS A B 8)).toArray (0, 0) _ rfl hp Try.underlying45 rfl (by rw [nums_size, sumS_length]; kernel_rfl)) rfl ⟨rfl, ?_⟩
      repeat (first | (with_reducible exact HB.out) | (refine below_set ?_ (by omega)))
def offertoryref09_Add.f (a0 a1 a2 a3 a4 a5 a6 a7 b0 b1 b2 b3 b4 b5 b6 b7 : Int) : Option (Int × Int × Int × Int × Int × Int × Int × Int) :=
  if Dig a0 a1 a2 a3 a4 a5 a6 a7 ∧ Dig b0 b1 b2 b3 b4 b5 b6 b7 then some (digs (bigV a0 a1 a2 a3 a4 a5 a6 a7 + bigV b0 b1 b2 b3 b4 b5 b6 b7)) else none
set_option maxRecDepth 100000 in
theorem offertoryref09_Add.calls (a0 a1 a2 a3 a4 a5 a6 a7 b0 b1 b2 b3 b4 b5 b6 b7 r1 r2 r3 r4 r5 r6 r7 r8 : Int) (w : World) (h : offertoryref09_Add.f a0 a1 a2 a3 a4 a5 a6 a7 b0 b1 b2 b3 b4 b5 b6 b7 = some (r1, r2, r3, r4, r5, r6, r7, r8)) :
    Calls Try.prog 31 #[.agg #[.int .u32 a0, .int .u32 a1, .int .u32 a2, .int .u32 a3, .int .u32 a4, .int .u32 a5, .int .u32 a6, .int .u32 a7], .agg #[.int .u32 b0, .int .u32 b1, .int .u32 b2, .int .u32 b3, .int .u32 b4, .int .u32 b5, .int .u32 b6, .int .u32 b7]] w fun e w' => e = .returned (.agg #[.int .u32 r1, .int .u32 r2, .int .u32 r3, .int .u32 r4, .int .u32 r5, .int .u32 r6, .int .u32 r7, .int .u32 r8]) ∧ Below w.heap.size w w' := by
  unfold offertoryref09_Add.f at h
  split at h
  case isFalse => cases h
  rename_i hr
  have hA : Small [a0, a1, a2, a3, a4, a5, a6, a7] := hr.1.small
  have hB : Small [b0, b1, b2, b3, b4, b5, b6, b7] := hr.2.small
  refine (offertoryref09_Add.calls0 [a0, a1, a2, a3, a4, a5, a6, a7] [b0, b1, b2, b3, b4, b5, b6, b7] hA hB w).mono ?_
  rintro e w' ⟨rfl, hb⟩
  refine ⟨?_, hb⟩
  simp only [Option.some.injEq, digs, Prod.mk.injEq] at h
  obtain ⟨rfl, rfl, rfl, rfl, rfl, rfl, rfl, rfl⟩ := h
  obtain ⟨hr1, hr2⟩ := hr
  unfold Dig at hr1 hr2
  have hc1 : carryAt [a0, a1, a2, a3, a4, a5, a6, a7] [b0, b1, b2, b3, b4, b5, b6, b7] 1 = (a0 + b0 + carryAt [a0, a1, a2, a3, a4, a5, a6, a7] [b0, b1, b2, b3, b4, b5, b6, b7] 0) / 65536 := rfl
  have hc2 : carryAt [a0, a1, a2, a3, a4, a5, a6, a7] [b0, b1, b2, b3, b4, b5, b6, b7] 2 = (a1 + b1 + carryAt [a0, a1, a2, a3, a4, a5, a6, a7] [b0, b1, b2, b3, b4, b5, b6, b7] 1) / 65536 := rfl
  have hc3 : carryAt [a0, a1, a2, a3, a4, a5, a6, a7] [b0, b1, b2, b3, b4, b5, b6, b7] 3 = (a2 + b2 + carryAt [a0, a1, a2, a3, a4, a5, a6, a7] [b0, b1, b2, b3, b4, b5, b6, b7] 2) / 65536 := rfl
  have hc4 : carryAt [a0, a1, a2, a3, a4, a5, a6, a7] [b0, b1, b2, b3, b4, b5, b6, b7] 4 = (a3 + b3 + carryAt [a0, a1, a2, a3, a4, a5, a6, a7] [b0, b1, b2, b3, b4, b5, b6, b7] 3) / 65536 := rfl
  have hc5 : carryAt [a0, a1, a2, a3, a4, a5, a6, a7] [b0, b1, b2, b3, b4, b5, b6, b7] 5 = (a4 + b4 + carryAt [a0, a1, a2, a3, a4, a5, a6, a7] [b0, b1, b2, b3, b4, b5, b6, b7] 4) / 65536 := rfl
  have hc6 : carryAt [a0, a1, a2, a3, a4, a5, a6, a7] [b0, b1, b2, b3, b4, b5, b6, b7] 6 = (a5 + b5 + carryAt [a0, a1, a2, a3, a4, a5, a6, a7] [b0, b1, b2, b3, b4, b5, b6, b7] 5) / 65536 := rfl
  have hc7 : carryAt [a0, a1, a2, a3, a4, a5, a6, a7] [b0, b1, b2, b3, b4, b5, b6, b7] 7 = (a6 + b6 + carryAt [a0, a1, a2, a3, a4, a5, a6, a7] [b0, b1, b2, b3, b4, b5, b6, b7] 6) / 65536 := rfl
  have hc8 : carryAt [a0, a1, a2, a3, a4, a5, a6, a7] [b0, b1, b2, b3, b4, b5, b6, b7] 8 = (a7 + b7 + carryAt [a0, a1, a2, a3, a4, a5, a6, a7] [b0, b1, b2, b3, b4, b5, b6, b7] 7) / 65536 := rfl
  have hd0 : digAt [a0, a1, a2, a3, a4, a5, a6, a7] [b0, b1, b2, b3, b4, b5, b6, b7] 0 = (a0 + b0 + carryAt [a0, a1, a2, a3, a4, a5, a6, a7] [b0, b1, b2, b3, b4, b5, b6, b7] 0) % 65536 := rfl
  have hd1 : digAt [a0, a1, a2, a3, a4, a5, a6, a7] [b0, b1, b2, b3, b4, b5, b6, b7] 1 = (a1 + b1 + carryAt [a0, a1, a2, a3, a4, a5, a6, a7] [b0, b1, b2, b3, b4, b5, b6, b7] 1) % 65536 := rfl
  have hd2 : digAt [a0, a1, a2, a3, a4, a5, a6, a7] [b0, b1, b2, b3, b4, b5, b6, b7] 2 = (a2 + b2 + carryAt [a0, a1, a2, a3, a4, a5, a6, a7] [b0, b1, b2, b3, b4, b5, b6, b7] 2) % 65536 := rfl
  have hd3 : digAt [a0, a1, a2, a3, a4, a5, a6, a7] [b0, b1, b2, b3, b4, b5, b6, b7] 3 = (a3 + b3 + carryAt [a0, a1, a2, a3, a4, a5, a6, a7] [b0, b1, b2, b3, b4, b5, b6, b7] 3) % 65536 := rfl
  have hd4 : digAt [a0, a1, a2, a3, a4, a5, a6, a7] [b0, b1, b2, b3, b4, b5, b6, b7] 4 = (a4 + b4 + carryAt [a0, a1, a2, a3, a4, a5, a6, a7] [b0, b1, b2, b3, b4, b5, b6, b7] 4) % 65536 := rfl
  have hd5 : digAt [a0, a1, a2, a3, a4, a5, a6, a7] [b0, b1, b2, b3, b4, b5, b6, b7] 5 = (a5 + b5 + carryAt [a0, a1, a2, a3, a4, a5, a6, a7] [b0, b1, b2, b3, b4, b5, b6, b7] 5) % 65536 := rfl
  have hd6 : digAt [a0, a1, a2, a3, a4, a5, a6, a7] [b0, b1, b2, b3, b4, b5, b6, b7] 6 = (a6 + b6 + carryAt [a0, a1, a2, a3, a4, a5, a6, a7] [b0, b1, b2, b3, b4, b5, b6, b7] 6) % 65536 := rfl
  have hd7 : digAt [a0, a1, a2, a3, a4, a5, a6, a7] [b0, b1, b2, b3, b4, b5, b6, b7] 7 = (a7 + b7 + carryAt [a0, a1, a2, a3, a4, a5, a6, a7] [b0, b1, b2, b3, b4, b5, b6, b7] 7) % 65536 := rfl
  have hc0 : carryAt [a0, a1, a2, a3, a4, a5, a6, a7] [b0, b1, b2, b3, b4, b5, b6, b7] 0 = 0 := rfl
  have he : sumS [a0, a1, a2, a3, a4, a5, a6, a7] [b0, b1, b2, b3, b4, b5, b6, b7] 8 = [digAt [a0, a1, a2, a3, a4, a5, a6, a7] [b0, b1, b2, b3, b4, b5, b6, b7] 0, digAt [a0, a1, a2, a3, a4, a5, a6, a7] [b0, b1, b2, b3, b4, b5, b6, b7] 1, digAt [a0, a1, a2, a3, a4, a5, a6, a7] [b0, b1, b2, b3, b4, b5, b6, b7] 2, digAt [a0, a1, a2, a3, a4, a5, a6, a7] [b0, b1, b2, b3, b4, b5, b6, b7] 3, digAt [a0, a1, a2, a3, a4, a5, a6, a7] [b0, b1, b2, b3, b4, b5, b6, b7] 4, digAt [a0, a1, a2, a3, a4, a5, a6, a7] [b0, b1, b2, b3, b4, b5, b6, b7] 5, digAt [a0, a1, a2, a3, a4, a5, a6, a7] [b0, b1, b2, b3, b4, b5, b6, b7] 6, digAt [a0, a1, a2, a3, a4, a5, a6, a7] [b0, b1, b2, b3, b4, b5, b6, b7] 7] := rfl
  rw [he]
  generalize carryAt [a0, a1, a2, a3, a4, a5, a6, a7] [b0, b1, b2, b3, b4, b5, b6, b7] 0 = c0 at *
  generalize carryAt [a0, a1, a2, a3, a4, a5, a6, a7] [b0, b1, b2, b3, b4, b5, b6, b7] 1 = c1 at *
  generalize carryAt [a0, a1, a2, a3, a4, a5, a6, a7] [b0, b1, b2, b3, b4, b5, b6, b7] 2 = c2 at *
  generalize carryAt [a0, a1, a2, a3, a4, a5, a6, a7] [b0, b1, b2, b3, b4, b5, b6, b7] 3 = c3 at *
  generalize carryAt [a0, a1, a2, a3, a4, a5, a6, a7] [b0, b1, b2, b3, b4, b5, b6, b7] 4 = c4 at *
  generalize carryAt [a0, a1, a2, a3, a4, a5, a6, a7] [b0, b1, b2, b3, b4, b5, b6, b7] 5 = c5 at *
  generalize carryAt [a0, a1, a2, a3, a4, a5, a6, a7] [b0, b1, b2, b3, b4, b5, b6, b7] 6 = c6 at *
  generalize carryAt [a0, a1, a2, a3, a4, a5, a6, a7] [b0, b1, b2, b3, b4, b5, b6, b7] 7 = c7 at *
  generalize carryAt [a0, a1, a2, a3, a4, a5, a6, a7] [b0, b1, b2, b3, b4, b5, b6, b7] 8 = c8 at *
  generalize digAt [a0, a1, a2, a3, a4, a5, a6, a7] [b0, b1, b2, b3, b4, b5, b6, b7] 0 = d0 at *
  generalize digAt [a0, a1, a2, a3, a4, a5, a6, a7] [b0, b1, b2, b3, b4, b5, b6, b7] 1 = d1 at *
  generalize digAt [a0, a1, a2, a3, a4, a5, a6, a7] [b0, b1, b2, b3, b4, b5, b6, b7] 2 = d2 at *
  generalize digAt [a0, a1, a2, a3, a4, a5, a6, a7] [b0, b1, b2, b3, b4, b5, b6, b7] 3 = d3 at *
  generalize digAt [a0, a1, a2, a3, a4, a5, a6, a7] [b0, b1, b2, b3, b4, b5, b6, b7] 4 = d4 at *
  generalize digAt [a0, a1, a2, a3, a4, a5, a6, a7] [b0, b1, b2, b3, b4, b5, b6, b7] 5 = d5 at *
  generalize digAt [a0, a1, a2, a3, a4, a5, a6, a7] [b0, b1, b2, b3, b4, b5, b6, b7] 6 = d6 at *
  generalize digAt [a0, a1, a2, a3, a4, a5, a6, a7] [b0, b1, b2, b3, b4, b5, b6, b7] 7 = d7 at *
  unfold bigV at *
  have e0 : d0 = bigD (bigV a0 a1 a2 a3 a4 a5 a6 a7 + bigV b0 b1 b2 b3 b4 b5 b6 b7) 0 := by simp only [bigD, bigV]; omega
  have e1 : d1 = bigD (bigV a0 a1 a2 a3 a4 a5 a6 a7 + bigV b0 b1 b2 b3 b4 b5 b6 b7) 1 := by simp only [bigD, bigV]; omega
  have e2 : d2 = bigD (bigV a0 a1 a2 a3 a4 a5 a6 a7 + bigV b0 b1 b2 b3 b4 b5 b6 b7) 2 := by simp only [bigD, bigV]; omega
  have e3 : d3 = bigD (bigV a0 a1 a2 a3 a4 a5 a6 a7 + bigV b0 b1 b2 b3 b4 b5 b6 b7) 3 := by simp only [bigD, bigV]; omega
  have e4 : d4 = bigD (bigV a0 a1 a2 a3 a4 a5 a6 a7 + bigV b0 b1 b2 b3 b4 b5 b6 b7) 4 := by simp only [bigD, bigV]; omega
  have e5 : d5 = bigD (bigV a0 a1 a2 a3 a4 a5 a6 a7 + bigV b0 b1 b2 b3 b4 b5 b6 b7) 5 := by simp only [bigD, bigV]; omega
  have e6 : d6 = bigD (bigV a0 a1 a2 a3 a4 a5 a6 a7 + bigV b0 b1 b2 b3 b4 b5 b6 b7) 6 := by simp only [bigD, bigV]; omega
  have e7 : d7 = bigD (bigV a0 a1 a2 a3 a4 a5 a6 a7 + bigV b0 b1 b2 b3 b4 b5 b6 b7) 7 := by simp only [bigD, bigV]; omega
  rw [e0, e1, e2, e3, e4, e5, e6, e7]
  rfl


/-! ### offertoryref09_Mul: function 19 -/
def digL (v : Int) : List Int := [bigD v 0, bigD v 1, bigD v 2, bigD v 3, bigD v 4, bigD v 5, bigD v 6, bigD v 7]
def bvL (l : List Int) : Int := bigV (rd l 0) (rd l 1) (rd l 2) (rd l 3) (rd l 4) (rd l 5) (rd l 6) (rd l 7)
theorem bigD_in (v : Int) (i : Nat) : 0 ≤ bigD v i ∧ bigD v i ≤ 65535 := by unfold bigD; omega
theorem digL_dig (v : Int) : Dig (bigD v 0) (bigD v 1) (bigD v 2) (bigD v 3) (bigD v 4) (bigD v 5) (bigD v 6) (bigD v 7) :=
  ⟨bigD_in v 0, bigD_in v 1, bigD_in v 2, bigD_in v 3, bigD_in v 4, bigD_in v 5, bigD_in v 6, bigD_in v 7⟩
theorem digL_small (v : Int) : Small (digL v) := (digL_dig v).small
theorem small_dig {l : List Int} (h : Small l) : Dig (rd l 0) (rd l 1) (rd l 2) (rd l 3) (rd l 4) (rd l 5) (rd l 6) (rd l 7) :=
  ⟨h.2 0, h.2 1, h.2 2, h.2 3, h.2 4, h.2 5, h.2 6, h.2 7⟩
theorem bigV_digs (v : Int) : bigV (bigD v 0) (bigD v 1) (bigD v 2) (bigD v 3) (bigD v 4) (bigD v 5) (bigD v 6) (bigD v 7) = v % 340282366920938463463374607431768211456 := by
  simp only [bigV, bigD]
  omega
theorem bvL_digL (v : Int) : bvL (digL v) = v % 340282366920938463463374607431768211456 := bigV_digs v
theorem digs_mod {v w : Int} (h : v % 340282366920938463463374607431768211456 = w % 340282366920938463463374607431768211456) : digs v = digs w := by
  have key : ∀ x : Int, digs x = digs (x % 340282366920938463463374607431768211456) := by
    intro x
    simp only [digs, bigD, Prod.mk.injEq]
    omega
  rw [key v, key w, h]
theorem digL_mod {v w : Int} (h : v % 340282366920938463463374607431768211456 = w % 340282366920938463463374607431768211456) : digL v = digL w := by
  have := digs_mod h
  simp only [digs, Prod.mk.injEq] at this
  simp only [digL, this]
theorem addL (A B : List Int) (hA : Small A) (hB : Small B) (w : World) :
    Calls Try.prog 31 #[.agg (nums .u32 A).toArray, .agg (nums .u32 B).toArray] w fun e w' => e = .returned (.agg #[.int .u32 (rd (digL (bvL A + bvL B)) 0), .int .u32 (rd (digL (bvL A + bvL B)) 1), .int .u32 (rd (digL (bvL A + bvL B)) 2), .int .u32 (rd (digL (bvL A + bvL B)) 3), .int .u32 (rd (digL (bvL A + bvL B)) 4), .int .u32 (rd (digL (bvL A + bvL B)) 5), .int .u32 (rd (digL (bvL A + bvL B)) 6), .int .u32 (rd (digL (bvL A + bvL B)) 7)]) ∧ Below w.heap.size w w' := by
  have h : offertoryref09_Add.f (rd A 0) (rd A 1) (rd A 2) (rd A 3) (rd A 4) (rd A 5) (rd A 6) (rd A 7) (rd B 0) (rd B 1) (rd B 2) (rd B 3) (rd B 4) (rd B 5) (rd B 6) (rd B 7) = some (digs (bvL A + bvL B)) := by
    unfold offertoryref09_Add.f
    rw [if_pos ⟨small_dig hA, small_dig hB⟩]
    rfl
  have hc := offertoryref09_Add.calls _ _ _ _ _ _ _ _ _ _ _ _ _ _ _ _ _ _ _ _ _ _ _ _ w h
  have eA : (nums .u32 A).toArray = (nums .u32 [rd A 0, rd A 1, rd A 2, rd A 3, rd A 4, rd A 5, rd A 6, rd A 7]).toArray := by rw [list8 hA.1]
  have eB : (nums .u32 B).toArray = (nums .u32 [rd B 0, rd B 1, rd B 2, rd B 3, rd B 4, rd B 5, rd B 6, rd B 7]).toArray := by rw [list8 hB.1]
  rw [eA, eB]
  exact hc
/-- One row of the product: what is carried, its digits, the array behind k rounds. -/
def mulC (x : Int) (B : List Int) : Nat → Int
  | 0 => 0
  | k + 1 => (x * rd B k + mulC x B k) / 65536
def mulD (x : Int) (B : List Int) (k : Nat) : Int := (x * rd B k + mulC x B k) % 65536
def rowS (x : Int) (B : List Int) (i k : Nat) : List Int := (List.range 8).map (fun j => if i ≤ j ∧ j < i + k then mulD x B (j - i) else 0)
theorem prod_in {x y : Int} (h0 : 0 ≤ x) (h1 : x ≤ 65535) (h2 : 0 ≤ y) (h3 : y ≤ 65535) : 0 ≤ x * y ∧ x * y ≤ 4294836225 := by
  refine ⟨Int.mul_nonneg h0 h2, ?_⟩
  have := Int.mul_le_mul h1 h3 h2 (by omega : (0 : Int) ≤ 65535)
  omega
theorem mulC_in {x : Int} {B : List Int} (h0 : 0 ≤ x) (h1 : x ≤ 65535) (hB : Small B) : ∀ k, 0 ≤ mulC x B k ∧ mulC x B k ≤ 65535
  | 0 => by simp [mulC]
  | k + 1 => by
    have := prod_in h0 h1 (hB.2 k).1 (hB.2 k).2
    have := mulC_in h0 h1 hB k
    simp only [mulC]
    omega
theorem mulD_in (x : Int) (B : List Int) (k : Nat) : 0 ≤ mulD x B k ∧ mulD x B k ≤ 65535 := by unfold mulD; omega
theorem rowS_length (x : Int) (B : List Int) (i k : Nat) : (rowS x B i k).length = 8 := by simp [rowS]
theorem rowS_zero (x : Int) (B : List Int) (i : Nat) : rowS x B i 0 = [0, 0, 0, 0, 0, 0, 0, 0] := by
  refine List.ext_getElem (by simp [rowS]) (fun j h1 h2 => ?_)
  have : ¬ (i ≤ j ∧ j < i + 0) := by omega
  simp only [rowS, List.getElem_map, List.getElem_range, if_neg this]
  rw [rowS_length] at h1
  match j, h1 with
  | 0, _ => rfl
  | 1, _ => rfl
  | 2, _ => rfl
  | 3, _ => rfl
  | 4, _ => rfl
  | 5, _ => rfl
  | 6, _ => rfl
  | 7, _ => rfl
theorem rowS_set (x : Int) (B : List Int) (i k : Nat) : (rowS x B i k).set (i + k) (mulD x B k) = rowS x B i (k + 1) := by
  refine List.ext_getElem (by simp [rowS]) (fun j h1 h2 => ?_)
  simp only [List.getElem_set, rowS, List.getElem_map, List.getElem_range]
  by_cases e : i + k = j
  · subst e
    simp
  · rw [if_neg e]
    by_cases h3 : i ≤ j ∧ j < i + k
    · rw [if_pos h3, if_pos (by omega)]
    · rw [if_neg h3, if_neg (by omega)]
theorem rowS_small (x : Int) (B : List Int) (i k : Nat) : Small (rowS x B i k) := by
  refine ⟨rowS_length x B i k, fun j => ?_⟩
  by_cases h : j < 8
  · have e : rd (rowS x B i k) (j : Int) = if i ≤ j ∧ j < i + k then mulD x B (j - i) else 0 := by simp [rowS, rd, List.getD, h]
    rw [e]
    split
    · exact mulD_in x B _
    · omega
  · have e : rd (rowS x B i k) (j : Int) = 0 := by
      unfold rd
      rw [List.getD_eq_getElem?_getD, List.getElem?_eq_none (by rw [rowS_length]; omega)]
      rfl
    omega
/-- The sum of the first i rows. -/
def accP (A B : List Int) : Nat → Int
  | 0 => 0
  | i + 1 => bvL (digL (accP A B i)) + bvL (rowS (rd A i) B i (8 - i))
def MulO (w : World) (A B : List Int) (i : Nat) (w' : World) : Prop :=
  Below w.heap.size w w' ∧ w.heap.size + 1 + 1 + 1 + 1 ≤ w'.heap.size ∧ ArrAt w' w.heap.size 45 .u32 A ∧ ArrAt w' (w.heap.size + 1) 45 .u32 B ∧ ArrAt w' (w.heap.size + 1 + 1) 45 .u32 [0, 0, 0, 0, 0, 0, 0, 0] ∧ ArrAt w' (w.heap.size + 1 + 1 + 1) 45 .u32 (digL (accP A B i))
def MulI (w : World) (A B : List Int) (i g k : Nat) (w' : World) : Prop := MulO w A B i w' ∧ w.heap.size + 1 + 1 + 1 + 1 ≤ g ∧ ArrAt w' g 45 .u32 (rowS (rd A i) B i k)
set_option maxHeartbeats 1600000 in
set_option maxRecDepth 100000 in
theorem offertoryref09_Mul.calls0 (A B : List Int) (hA : Small A) (hB : Small B) (w : World) :
    Calls Try.prog 19 #[.agg (nums .u32 A).toArray, .agg (nums .u32 B).toArray] w fun e w' => e = .returned (.agg (nums .u32 (digL (accP A B 8))).toArray) ∧ Below w.heap.size w w' := by
  have hu29 := Try.underlying45
  go_enter Try.func19, Try.ntmps19
  go_wp2
  go_loopw [6] (fun i w' => ∃ k : Nat, k ≤ 8 ∧ i = .int .i64 k ∧ MulO w A B k w') (fun i _ => 8 - (intOf i).toNat)
  case atStart =>
    have e0 : digL (accP A B 0) = [0, 0, 0, 0, 0, 0, 0, 0] := by
      show digL 0 = _
      decide +kernel
    refine ⟨0, by omega, rfl, ?_, ?_, ?_, ?_, ?_, ?_⟩
    · repeat (first | (with_reducible exact Below.refl _ _) | apply below_alloc)
    · simp only [alloc_size]; omega
    · exact blk_alloc (blk_alloc (blk_alloc (blk_new _ _) _) _) _
    · have h := blk_alloc (blk_alloc (blk_new (w.alloc (.cells (nums .u32 A).toArray 45)) (.cells (nums .u32 B).toArray 45)) (.cells (nums .u32 [0, 0, 0, 0, 0, 0, 0, 0]).toArray 45)) (.cells (nums .u32 [0, 0, 0, 0, 0, 0, 0, 0]).toArray 45)
      rw [alloc_size] at h
      exact h
    · have h := blk_alloc (blk_new ((w.alloc (.cells (nums .u32 A).toArray 45)).alloc (.cells (nums .u32 B).toArray 45)) (.cells (nums .u32 [0, 0, 0, 0, 0, 0, 0, 0]).toArray 45)) (.cells (nums .u32 [0, 0, 0, 0, 0, 0, 0, 0]).toArray 45)
      rw [alloc_size, alloc_size] at h
      exact h
    · have h := blk_new (((w.alloc (.cells (nums .u32 A).toArray 45)).alloc (.cells (nums .u32 B).toArray 45)).alloc (.cells (nums .u32 [0, 0, 0, 0, 0, 0, 0, 0]).toArray 45)) (.cells (nums .u32 [0, 0, 0, 0, 0, 0, 0, 0]).toArray 45)
      rw [alloc_size, alloc_size, alloc_size] at h
      rw [e0]
      exact h
  case round =>
    obtain ⟨i, hi, rfl, hb, hsz, ha1, ha2, ha3, ha4⟩ := hrel
    by_cases hlt : i < 8
    · have HB := Aside0.mk hb
      have HZ := Aside0.mk hsz
      have H1 := Aside0.mk ha1
      have H2 := Aside0.mk ha2
      have H3 := Aside0.mk ha3
      have H4 := Aside0.mk ha4
      clear hb hsz ha1 ha2 ha3 ha4
      go_wp2
      go_loopw [8, 9] (fun c k w' => ∃ q : Nat, i + q ≤ 8 ∧ c = .int .u64 (mulC (rd A i) B q) ∧ k = .int .i64 q ∧ MulI w A B i wr.heap.size q w') (fun _ k _ => 8 - (intOf k).toNat)
      case atStart =>
        refine ⟨0, by omega, rfl, rfl, ⟨?_, ?_, ?_, ?_, ?_, ?_⟩, HZ.out, ?_⟩
        · exact below_alloc HB.out _
        · have := HZ.out
          rw [alloc_size]; omega
        · exact H1.out.alloc _
        · exact H2.out.alloc _
        · exact H3.out.alloc _
        · exact H4.out.alloc _
        · rw [rowS_zero]
          exact blk_new _ _
      case round =>
        obtain ⟨q, hq, rfl, rfl, ⟨hb, hsz, ha1, ha2, ha3, ha4⟩, hg, hrow⟩ := hrel
        clear HB HZ H1 H2 H3 H4
        have HB := Aside0.mk hb
        have HZ := Aside0.mk hsz
        have HG := Aside0.mk hg
        by_cases hq2 : i + q < 8
        · have g1 := ha1.get i (by rw [hA.1]; exact hlt)
          have g2 := ha2.get q (by rw [hB.1]; omega)
          have g3 := hrow.get (i + q) (by rw [rowS_length]; exact hq2)
          have f3 := hrow.frz (i + q)
          have bp := prod_in (hA.2 i).1 (hA.2 i).2 (hB.2 q).1 (hB.2 q).2
          have bA := hA.2 i
          have bB := hB.2 q
          have bc := mulC_in bA.1 bA.2 hB q
          have t1 : decide ((i : Int) + (q : Int) < 8) = true := decide_eq_true (by omega)
          have H1 := Aside0.mk ha1
          have H2 := Aside0.mk ha2
          have H3 := Aside0.mk ha3
          have H4 := Aside0.mk ha4
          have HR := Aside0.mk hrow
          clear hb hsz ha1 ha2 ha3 ha4 hrow hg
          go_wp2
          go_quiet (fail)
          go_wp2
          go_roundw
          case rel =>
            refine ⟨q + 1, by omega, rfl, by go_num, ⟨?_, ?_, ?_, ?_, ?_, ?_⟩, HG.out, ?_⟩
            · exact below_set (pw_below_drewN HB.out nq) (by have := HG.out; omega)
            · have h := HZ.out
              rw [World.size_setCell]
              exact h
            · exact (H1.out.drew nq).far (by have := HG.out; omega)
            · exact (H2.out.drew nq).far (by have := HG.out; omega)
            · exact (H3.out.drew nq).far (by have := HG.out; omega)
            · exact (H4.out.drew nq).far (by have := HG.out; omega)
            · have h := (HR.out.drew nq).put (i + q) (mulD (rd A i) B q)
              rw [rowS_set] at h
              exact h
          case measure => simp [intOf]; omega
        · have eq : q = 8 - i := by omega
          subst eq
          have t1 : decide ((i : Int) + ((8 - i : Nat) : Int) < 8) = false := decide_eq_false (by omega)
          have H1 := Aside0.mk ha1
          have H2 := Aside0.mk ha2
          have H3 := Aside0.mk ha3
          have H4 := Aside0.mk ha4
          have HR := Aside0.mk hrow
          have c0 := ha4.get 0 (by rw [(digL_small _).1]; decide)
          have r0 := hrow.get 0 (by rw [rowS_length]; decide)
          have c1 := ha4.get 1 (by rw [(digL_small _).1]; decide)
          have r1 := hrow.get 1 (by rw [rowS_length]; decide)
          have c2 := ha4.get 2 (by rw [(digL_small _).1]; decide)
          have r2 := hrow.get 2 (by rw [rowS_length]; decide)
          have c3 := ha4.get 3 (by rw [(digL_small _).1]; decide)
          have r3 := hrow.get 3 (by rw [rowS_length]; decide)
          have c4 := ha4.get 4 (by rw [(digL_small _).1]; decide)
          have r4 := hrow.get 4 (by rw [rowS_length]; decide)
          have c5 := ha4.get 5 (by rw [(digL_small _).1]; decide)
          have r5 := hrow.get 5 (by rw [rowS_length]; decide)
          have c6 := ha4.get 6 (by rw [(digL_small _).1]; decide)
          have r6 := hrow.get 6 (by rw [rowS_length]; decide)
          have c7 := ha4.get 7 (by rw [(digL_small _).1]; decide)
          have r7 := hrow.get 7 (by rw [rowS_length]; decide)
          clear hb hsz ha1 ha2 ha3 ha4 hrow hg
          go_wp2_with fail
          go_at_call 31
          rw [nums8 (digL_small (accP A B i)).1, nums8 (rowS_length (rd A i) B i (8 - i))]
          refine (addL _ _ (digL_small _) (rowS_small _ _ _ _) _).mono ?_
          rintro e w' ⟨rfl, hb⟩
          have K1 := Aside0.mk (H1.out.below hb)
          have K2 := Aside0.mk (H2.out.below hb)
          have K3 := Aside0.mk (H3.out.below hb)
          have k4 := H4.out.below hb
          have K4 := Aside0.mk k4
          have KB := Aside0.mk (below_step HB.out hb)
          have KZ := Aside0.mk (Nat.le_trans HZ.out hb.size)
          have d0 := k4.get 0 (by rw [(digL_small _).1]; decide)
          have f0 := k4.frz 0
          have d1 := k4.get 1 (by rw [(digL_small _).1]; decide)
          have f1 := k4.frz 1
          have d2 := k4.get 2 (by rw [(digL_small _).1]; decide)
          have f2 := k4.frz 2
          have d3 := k4.get 3 (by rw [(digL_small _).1]; decide)
          have f3 := k4.frz 3
          have d4 := k4.get 4 (by rw [(digL_small _).1]; decide)
          have f4 := k4.frz 4
          have d5 := k4.get 5 (by rw [(digL_small _).1]; decide)
          have f5 := k4.frz 5
          have d6 := k4.get 6 (by rw [(digL_small _).1]; decide)
          have f6 := k4.frz 6
          have d7 := k4.get 7 (by rw [(digL_small _).1]; decide)
          have f7 := k4.frz 7
          clear hb k4
          go_wp2
          go_roundw
          case rel =>
            refine ⟨i + 1, by omega, by go_num, ?_, ?_, ?_, ?_, ?_, ?_⟩
            · repeat (first | (with_reducible exact KB.out) | (refine below_set ?_ (by omega)))
            · have h := KZ.out
              rw [World.size_setCell, World.size_setCell, World.size_setCell, World.size_setCell, World.size_setCell, World.size_setCell, World.size_setCell, World.size_setCell]
              exact h
            · exact (((((((K1.out.far (by omega)).far (by omega)).far (by omega)).far (by omega)).far (by omega)).far (by omega)).far (by omega)).far (by omega)
            · exact (((((((K2.out.far (by omega)).far (by omega)).far (by omega)).far (by omega)).far (by omega)).far (by omega)).far (by omega)).far (by omega)
            · exact (((((((K3.out.far (by omega)).far (by omega)).far (by omega)).far (by omega)).far (by omega)).far (by omega)).far (by omega)).far (by omega)
            · exact K4.out.put8 (digL (bvL (digL (accP A B i)) + bvL (rowS (rd A i) B i (8 - i)))) rfl rfl
          case measure => simp [intOf]; omega
    · have e8 : i = 8 := by omega
      subst e8
      have HB := Aside0.mk hb
      have H3 := Aside0.mk ha3
      have c0 := ha4.get 0 (by rw [(digL_small _).1]; decide)
      have c1 := ha4.get 1 (by rw [(digL_small _).1]; decide)
      have c2 := ha4.get 2 (by rw [(digL_small _).1]; decide)
      have c3 := ha4.get 3 (by rw [(digL_small _).1]; decide)
      have c4 := ha4.get 4 (by rw [(digL_small _).1]; decide)
      have c5 := ha4.get 5 (by rw [(digL_small _).1]; decide)
      have c6 := ha4.get 6 (by rw [(digL_small _).1]; decide)
      have c7 := ha4.get 7 (by rw [(digL_small _).1]; decide)
      have d0 := ha3.get 0 (by decide)
      have d1 := ha3.get 1 (by decide)
      have d2 := ha3.get 2 (by decide)
      have d3 := ha3.get 3 (by decide)
      have d4 := ha3.get 4 (by decide)
      have d5 := ha3.get 5 (by decide)
      have d6 := ha3.get 6 (by decide)
      have d7 := ha3.get 7 (by decide)
      have f0 := ha3.frz 0
      have f1 := ha3.frz 1
      have f2 := ha3.frz 2
      have f3 := ha3.frz 3
      have f4 := ha3.frz 4
      have f5 := ha3.frz 5
      have f6 := ha3.frz 6
      have f7 := ha3.frz 7
      clear hb hsz ha1 ha2 ha3 ha4
      go_wp2
      have hp := H3.out.put8 (digL (accP A B 8)) rfl (by decide)
      refine bodyPost_ret (results_cell_row rfl _ _ (w.heap.size + 1 + 1) 45 (nums .u32 (digL (accP A B 8))).toArray (0, 0) _ rfl hp Try.underlying45 rfl (by rw [nums_size, (digL_small _).1]; kernel_rfl)) rfl ⟨rfl, ?_⟩
      repeat (first | (with_reducible exact HB.out) | (refine below_set ?_ (by omega)))

theorem mstep0 (D P c p : Int) (h : D + c * 1 = P) : D + (p + c) % 65536 * 1 + (p + c) / 65536 * 65536 = P + p * 1 := by omega
theorem mstep1 (D P c p : Int) (h : D + c * 65536 = P) : D + (p + c) % 65536 * 65536 + (p + c) / 65536 * 4294967296 = P + p * 65536 := by omega
theorem mstep2 (D P c p : Int) (h : D + c * 4294967296 = P) : D + (p + c) % 65536 * 4294967296 + (p + c) / 65536 * 281474976710656 = P + p * 4294967296 := by omega
theorem mstep3 (D P c p : Int) (h : D + c * 281474976710656 = P) : D + (p + c) % 65536 * 281474976710656 + (p + c) / 65536 * 18446744073709551616 = P + p * 281474976710656 := by omega
theorem mstep4 (D P c p : Int) (h : D + c * 18446744073709551616 = P) : D + (p + c) % 65536 * 18446744073709551616 + (p + c) / 65536 * 1208925819614629174706176 = P + p * 18446744073709551616 := by omega
theorem mstep5 (D P c p : Int) (h : D + c * 1208925819614629174706176 = P) : D + (p + c) % 65536 * 1208925819614629174706176 + (p + c) / 65536 * 79228162514264337593543950336 = P + p * 1208925819614629174706176 := by omega
theorem mstep6 (D P c p : Int) (h : D + c * 79228162514264337593543950336 = P) : D + (p + c) % 65536 * 79228162514264337593543950336 + (p + c) / 65536 * 5192296858534827628530496329220096 = P + p * 79228162514264337593543950336 := by omega
theorem mstep7 (D P c p : Int) (h : D + c * 5192296858534827628530496329220096 = P) : D + (p + c) % 65536 * 5192296858534827628530496329220096 + (p + c) / 65536 * 340282366920938463463374607431768211456 = P + p * 5192296858534827628530496329220096 := by omega
theorem mul_ex (x : Int) (B : List Int) : x * bvL B = x * rd B 0 + x * rd B 1 * 65536 + x * rd B 2 * 4294967296 + x * rd B 3 * 281474976710656 + x * rd B 4 * 18446744073709551616 + x * rd B 5 * 1208925819614629174706176 + x * rd B 6 * 79228162514264337593543950336 + x * rd B 7 * 5192296858534827628530496329220096 := by
  simp only [bvL, bigV, Int.mul_add, Int.mul_assoc]
theorem msum1 (x : Int) (B : List Int) : mulD x B 0 + mulC x B 1 * 65536 = x * rd B 0 := by
  have h := mstep0 0 0 0 (x * rd B 0) rfl
  have e1 : mulC x B 1 = (x * rd B 0 + 0) / 65536 := rfl
  have e2 : mulD x B 0 = (x * rd B 0 + 0) % 65536 := rfl
  rw [e1, e2]
  omega
theorem msum2 (x : Int) (B : List Int) : mulD x B 0 + mulD x B 1 * 65536 + mulC x B 2 * 4294967296 = x * rd B 0 + x * rd B 1 * 65536 := mstep1 _ _ _ _ (msum1 x B)
theorem msum3 (x : Int) (B : List Int) : mulD x B 0 + mulD x B 1 * 65536 + mulD x B 2 * 4294967296 + mulC x B 3 * 281474976710656 = x * rd B 0 + x * rd B 1 * 65536 + x * rd B 2 * 4294967296 := mstep2 _ _ _ _ (msum2 x B)
theorem msum4 (x : Int) (B : List Int) : mulD x B 0 + mulD x B 1 * 65536 + mulD x B 2 * 4294967296 + mulD x B 3 * 281474976710656 + mulC x B 4 * 18446744073709551616 = x * rd B 0 + x * rd B 1 * 65536 + x * rd B 2 * 4294967296 + x * rd B 3 * 281474976710656 := mstep3 _ _ _ _ (msum3 x B)
theorem msum5 (x : Int) (B : List Int) : mulD x B 0 + mulD x B 1 * 65536 + mulD x B 2 * 4294967296 + mulD x B 3 * 281474976710656 + mulD x B 4 * 18446744073709551616 + mulC x B 5 * 1208925819614629174706176 = x * rd B 0 + x * rd B 1 * 65536 + x * rd B 2 * 4294967296 + x * rd B 3 * 281474976710656 + x * rd B 4 * 18446744073709551616 := mstep4 _ _ _ _ (msum4 x B)
theorem msum6 (x : Int) (B : List Int) : mulD x B 0 + mulD x B 1 * 65536 + mulD x B 2 * 4294967296 + mulD x B 3 * 281474976710656 + mulD x B 4 * 18446744073709551616 + mulD x B 5 * 1208925819614629174706176 + mulC x B 6 * 79228162514264337593543950336 = x * rd B 0 + x * rd B 1 * 65536 + x * rd B 2 * 4294967296 + x * rd B 3 * 281474976710656 + x * rd B 4 * 18446744073709551616 + x * rd B 5 * 1208925819614629174706176 := mstep5 _ _ _ _ (msum5 x B)
theorem msum7 (x : Int) (B : List Int) : mulD x B 0 + mulD x B 1 * 65536 + mulD x B 2 * 4294967296 + mulD x B 3 * 281474976710656 + mulD x B 4 * 18446744073709551616 + mulD x B 5 * 1208925819614629174706176 + mulD x B 6 * 79228162514264337593543950336 + mulC x B 7 * 5192296858534827628530496329220096 = x * rd B 0 + x * rd B 1 * 65536 + x * rd B 2 * 4294967296 + x * rd B 3 * 281474976710656 + x * rd B 4 * 18446744073709551616 + x * rd B 5 * 1208925819614629174706176 + x * rd B 6 * 79228162514264337593543950336 := mstep6 _ _ _ _ (msum6 x B)
theorem msum8 (x : Int) (B : List Int) : mulD x B 0 + mulD x B 1 * 65536 + mulD x B 2 * 4294967296 + mulD x B 3 * 281474976710656 + mulD x B 4 * 18446744073709551616 + mulD x B 5 * 1208925819614629174706176 + mulD x B 6 * 79228162514264337593543950336 + mulD x B 7 * 5192296858534827628530496329220096 + mulC x B 8 * 340282366920938463463374607431768211456 = x * rd B 0 + x * rd B 1 * 65536 + x * rd B 2 * 4294967296 + x * rd B 3 * 281474976710656 + x * rd B 4 * 18446744073709551616 + x * rd B 5 * 1208925819614629174706176 + x * rd B 6 * 79228162514264337593543950336 + x * rd B 7 * 5192296858534827628530496329220096 := mstep7 _ _ _ _ (msum7 x B)
theorem mfin0 (D P c y : Int) (h : D + c * 340282366920938463463374607431768211456 = P) : (1 * D) % 340282366920938463463374607431768211456 = (1 * (P + y * 340282366920938463463374607431768211456)) % 340282366920938463463374607431768211456 := by omega
theorem row0 (x : Int) (B : List Int) : bvL (rowS x B 0 8) % 340282366920938463463374607431768211456 = (1 * (x * bvL B)) % 340282366920938463463374607431768211456 := by
  have er : bvL (rowS x B 0 8) = bigV (mulD x B 0) (mulD x B 1) (mulD x B 2) (mulD x B 3) (mulD x B 4) (mulD x B 5) (mulD x B 6) (mulD x B 7) := rfl
  have e1 : bvL (rowS x B 0 8) = 1 * (mulD x B 0 + mulD x B 1 * 65536 + mulD x B 2 * 4294967296 + mulD x B 3 * 281474976710656 + mulD x B 4 * 18446744073709551616 + mulD x B 5 * 1208925819614629174706176 + mulD x B 6 * 79228162514264337593543950336 + mulD x B 7 * 5192296858534827628530496329220096) := by rw [er]; simp only [bigV]; omega
  have e2 : x * bvL B = (x * rd B 0 + x * rd B 1 * 65536 + x * rd B 2 * 4294967296 + x * rd B 3 * 281474976710656 + x * rd B 4 * 18446744073709551616 + x * rd B 5 * 1208925819614629174706176 + x * rd B 6 * 79228162514264337593543950336 + x * rd B 7 * 5192296858534827628530496329220096) + (0) * 340282366920938463463374607431768211456 := by
    first
    | (rw [mul_ex]; done)
    | (rw [mul_ex]; generalize x * rd B 0 = p0; generalize x * rd B 1 = p1; generalize x * rd B 2 = p2; generalize x * rd B 3 = p3; generalize x * rd B 4 = p4; generalize x * rd B 5 = p5; generalize x * rd B 6 = p6; generalize x * rd B 7 = p7; omega)
  rw [e1, e2]
  exact mfin0 _ _ _ _ (msum8 x B)
theorem mfin1 (D P c y : Int) (h : D + c * 5192296858534827628530496329220096 = P) : (65536 * D) % 340282366920938463463374607431768211456 = (65536 * (P + y * 5192296858534827628530496329220096)) % 340282366920938463463374607431768211456 := by omega
theorem row1 (x : Int) (B : List Int) : bvL (rowS x B 1 7) % 340282366920938463463374607431768211456 = (65536 * (x * bvL B)) % 340282366920938463463374607431768211456 := by
  have er : bvL (rowS x B 1 7) = bigV 0 (mulD x B 0) (mulD x B 1) (mulD x B 2) (mulD x B 3) (mulD x B 4) (mulD x B 5) (mulD x B 6) := rfl
  have e1 : bvL (rowS x B 1 7) = 65536 * (mulD x B 0 + mulD x B 1 * 65536 + mulD x B 2 * 4294967296 + mulD x B 3 * 281474976710656 + mulD x B 4 * 18446744073709551616 + mulD x B 5 * 1208925819614629174706176 + mulD x B 6 * 79228162514264337593543950336) := by rw [er]; simp only [bigV]; omega
  have e2 : x * bvL B = (x * rd B 0 + x * rd B 1 * 65536 + x * rd B 2 * 4294967296 + x * rd B 3 * 281474976710656 + x * rd B 4 * 18446744073709551616 + x * rd B 5 * 1208925819614629174706176 + x * rd B 6 * 79228162514264337593543950336) + (x * rd B 7) * 5192296858534827628530496329220096 := by
    first
    | (rw [mul_ex]; done)
    | (rw [mul_ex]; generalize x * rd B 0 = p0; generalize x * rd B 1 = p1; generalize x * rd B 2 = p2; generalize x * rd B 3 = p3; generalize x * rd B 4 = p4; generalize x * rd B 5 = p5; generalize x * rd B 6 = p6; generalize x * rd B 7 = p7; omega)
  rw [e1, e2]
  exact mfin1 _ _ _ _ (msum7 x B)
theorem mfin2 (D P c y : Int) (h : D + c * 79228162514264337593543950336 = P) : (4294967296 * D) % 340282366920938463463374607431768211456 = (4294967296 * (P + y * 79228162514264337593543950336)) % 340282366920938463463374607431768211456 := by omega
theorem row2 (x : Int) (B : List Int) : bvL (rowS x B 2 6) % 340282366920938463463374607431768211456 = (4294967296 * (x * bvL B)) % 340282366920938463463374607431768211456 := by
  have er : bvL (rowS x B 2 6) = bigV 0 0 (mulD x B 0) (mulD x B 1) (mulD x B 2) (mulD x B 3) (mulD x B 4) (mulD x B 5) := rfl
  have e1 : bvL (rowS x B 2 6) = 4294967296 * (mulD x B 0 + mulD x B 1 * 65536 + mulD x B 2 * 4294967296 + mulD x B 3 * 281474976710656 + mulD x B 4 * 18446744073709551616 + mulD x B 5 * 1208925819614629174706176) := by rw [er]; simp only [bigV]; omega
  have e2 : x * bvL B = (x * rd B 0 + x * rd B 1 * 65536 + x * rd B 2 * 4294967296 + x * rd B 3 * 281474976710656 + x * rd B 4 * 18446744073709551616 + x * rd B 5 * 1208925819614629174706176) + (x * rd B 6 + x * rd B 7 * 65536) * 79228162514264337593543950336 := by
    first
    | (rw [mul_ex]; done)
    | (rw [mul_ex]; generalize x * rd B 0 = p0; generalize x * rd B 1 = p1; generalize x * rd B 2 = p2; generalize x * rd B 3 = p3; generalize x * rd B 4 = p4; generalize x * rd B 5 = p5; generalize x * rd B 6 = p6; generalize x * rd B 7 = p7; omega)
  rw [e1, e2]
  exact mfin2 _ _ _ _ (msum6 x B)
theorem mfin3 (D P c y : Int) (h : D + c * 1208925819614629174706176 = P) : (281474976710656 * D) % 340282366920938463463374607431768211456 = (281474976710656 * (P + y * 1208925819614629174706176)) % 340282366920938463463374607431768211456 := by omega
theorem row3 (x : Int) (B : List Int) : bvL (rowS x B 3 5) % 340282366920938463463374607431768211456 = (281474976710656 * (x * bvL B)) % 340282366920938463463374607431768211456 := by
  have er : bvL (rowS x B 3 5) = bigV 0 0 0 (mulD x B 0) (mulD x B 1) (mulD x B 2) (mulD x B 3) (mulD x B 4) := rfl
  have e1 : bvL (rowS x B 3 5) = 281474976710656 * (mulD x B 0 + mulD x B 1 * 65536 + mulD x B 2 * 4294967296 + mulD x B 3 * 281474976710656 + mulD x B 4 * 18446744073709551616) := by rw [er]; simp only [bigV]; omega
  have e2 : x * bvL B = (x * rd B 0 + x * rd B 1 * 65536 + x * rd B 2 * 4294967296 + x * rd B 3 * 281474976710656 + x * rd B 4 * 18446744073709551616) + (x * rd B 5 + x * rd B 6 * 65536 + x * rd B 7 * 4294967296) * 1208925819614629174706176 := by
    first
    | (rw [mul_ex]; done)
    | (rw [mul_ex]; generalize x * rd B 0 = p0; generalize x * rd B 1 = p1; generalize x * rd B 2 = p2; generalize x * rd B 3 = p3; generalize x * rd B 4 = p4; generalize x * rd B 5 = p5; generalize x * rd B 6 = p6; generalize x * rd B 7 = p7; omega)
  rw [e1, e2]
  exact mfin3 _ _ _ _ (msum5 x B)
theorem mfin4 (D P c y : Int) (h : D + c * 18446744073709551616 = P) : (18446744073709551616 * D) % 340282366920938463463374607431768211456 = (18446744073709551616 * (P + y * 18446744073709551616)) % 340282366920938463463374607431768211456 := by omega
theorem row4 (x : Int) (B : List Int) : bvL (rowS x B 4 4) % 340282366920938463463374607431768211456 = (18446744073709551616 * (x * bvL B)) % 340282366920938463463374607431768211456 := by
  have er : bvL (rowS x B 4 4) = bigV 0 0 0 0 (mulD x B 0) (mulD x B 1) (mulD x B 2) (mulD x B 3) := rfl
  have e1 : bvL (rowS x B 4 4) = 18446744073709551616 * (mulD x B 0 + mulD x B 1 * 65536 + mulD x B 2 * 4294967296 + mulD x B 3 * 281474976710656) := by rw [er]; simp only [bigV]; omega
  have e2 : x * bvL B = (x * rd B 0 + x * rd B 1 * 65536 + x * rd B 2 * 4294967296 + x * rd B 3 * 281474976710656) + (x * rd B 4 + x * rd B 5 * 65536 + x * rd B 6 * 4294967296 + x * rd B 7 * 281474976710656) * 18446744073709551616 := by
    first
    | (rw [mul_ex]; done)
    | (rw [mul_ex]; generalize x * rd B 0 = p0; generalize x * rd B 1 = p1; generalize x * rd B 2 = p2; generalize x * rd B 3 = p3; generalize x * rd B 4 = p4; generalize x * rd B 5 = p5; generalize x * rd B 6 = p6; generalize x * rd B 7 = p7; omega)
  rw [e1, e2]
  exact mfin4 _ _ _ _ (msum4 x B)
theorem mfin5 (D P c y : Int) (h : D + c * 281474976710656 = P) : (1208925819614629174706176 * D) % 340282366920938463463374607431768211456 = (1208925819614629174706176 * (P + y * 281474976710656)) % 340282366920938463463374607431768211456 := by omega
theorem row5 (x : Int) (B : List Int) : bvL (rowS x B 5 3) % 340282366920938463463374607431768211456 = (1208925819614629174706176 * (x * bvL B)) % 340282366920938463463374607431768211456 := by
  have er : bvL (rowS x B 5 3) = bigV 0 0 0 0 0 (mulD x B 0) (mulD x B 1) (mulD x B 2) := rfl
  have e1 : bvL (rowS x B 5 3) = 1208925819614629174706176 * (mulD x B 0 + mulD x B 1 * 65536 + mulD x B 2 * 4294967296) := by rw [er]; simp only [bigV]; omega
  have e2 : x * bvL B = (x * rd B 0 + x * rd B 1 * 65536 + x * rd B 2 * 4294967296) + (x * rd B 3 + x * rd B 4 * 65536 + x * rd B 5 * 4294967296 + x * rd B 6 * 281474976710656 + x * rd B 7 * 18446744073709551616) * 281474976710656 := by
    first
    | (rw [mul_ex]; done)
    | (rw [mul_ex]; generalize x * rd B 0 = p0; generalize x * rd B 1 = p1; generalize x * rd B 2 = p2; generalize x * rd B 3 = p3; generalize x * rd B 4 = p4; generalize x * rd B 5 = p5; generalize x * rd B 6 = p6; generalize x * rd B 7 = p7; omega)
  rw [e1, e2]
  exact mfin5 _ _ _ _ (msum3 x B)
theorem mfin6 (D P c y : Int) (h : D + c * 4294967296 = P) : (79228162514264337593543950336 * D) % 340282366920938463463374607431768211456 = (79228162514264337593543950336 * (P + y * 4294967296)) % 340282366920938463463374607431768211456 := by omega
theorem row6 (x : Int) (B : List Int) : bvL (rowS x B 6 2) % 340282366920938463463374607431768211456 = (79228162514264337593543950336 * (x * bvL B)) % 340282366920938463463374607431768211456 := by
  have er : bvL (rowS x B 6 2) = bigV 0 0 0 0 0 0 (mulD x B 0) (mulD x B 1) := rfl
  have e1 : bvL (rowS x B 6 2) = 79228162514264337593543950336 * (mulD x B 0 + mulD x B 1 * 65536) := by rw [er]; simp only [bigV]; omega
  have e2 : x * bvL B = (x * rd B 0 + x * rd B 1 * 65536) + (x * rd B 2 + x * rd B 3 * 65536 + x * rd B 4 * 4294967296 + x * rd B 5 * 281474976710656 + x * rd B 6 * 18446744073709551616 + x * rd B 7 * 1208925819614629174706176) * 4294967296 := by
    first
    | (rw [mul_ex]; done)
    | (rw [mul_ex]; generalize x * rd B 0 = p0; generalize x * rd B 1 = p1; generalize x * rd B 2 = p2; generalize x * rd B 3 = p3; generalize x * rd B 4 = p4; generalize x * rd B 5 = p5; generalize x * rd B 6 = p6; generalize x * rd B 7 = p7; omega)
  rw [e1, e2]
  exact mfin6 _ _ _ _ (msum2 x B)
theorem mfin7 (D P c y : Int) (h : D + c * 65536 = P) : (5192296858534827628530496329220096 * D) % 340282366920938463463374607431768211456 = (5192296858534827628530496329220096 * (P + y * 65536)) % 340282366920938463463374607431768211456 := by omega
theorem row7 (x : Int) (B : List Int) : bvL (rowS x B 7 1) % 340282366920938463463374607431768211456 = (5192296858534827628530496329220096 * (x * bvL B)) % 340282366920938463463374607431768211456 := by
  have er : bvL (rowS x B 7 1) = bigV 0 0 0 0 0 0 0 (mulD x B 0) := rfl
  have e1 : bvL (rowS x B 7 1) = 5192296858534827628530496329220096 * (mulD x B 0) := by rw [er]; simp only [bigV]; omega
  have e2 : x * bvL B = (x * rd B 0) + (x * rd B 1 + x * rd B 2 * 65536 + x * rd B 3 * 4294967296 + x * rd B 4 * 281474976710656 + x * rd B 5 * 18446744073709551616 + x * rd B 6 * 1208925819614629174706176 + x * rd B 7 * 79228162514264337593543950336) * 65536 := by
    first
    | (rw [mul_ex]; done)
    | (rw [mul_ex]; generalize x * rd B 0 = p0; generalize x * rd B 1 = p1; generalize x * rd B 2 = p2; generalize x * rd B 3 = p3; generalize x * rd B 4 = p4; generalize x * rd B 5 = p5; generalize x * rd B 6 = p6; generalize x * rd B 7 = p7; omega)
  rw [e1, e2]
  exact mfin7 _ _ _ _ (msum1 x B)
theorem acc_step (q q' s t S : Int) (h : q' = q % 340282366920938463463374607431768211456 + s) (r : s % 340282366920938463463374607431768211456 = t % 340282366920938463463374607431768211456) (k : q % 340282366920938463463374607431768211456 = S % 340282366920938463463374607431768211456) : q' % 340282366920938463463374607431768211456 = (S + t) % 340282366920938463463374607431768211456 := by omega
theorem accP_step (A B : List Int) (i : Nat) : accP A B (i + 1) = accP A B i % 340282366920938463463374607431768211456 + bvL (rowS (rd A i) B i (8 - i)) := by
  show bvL (digL (accP A B i)) + _ = _
  rw [bvL_digL]
theorem accP_prod (A B : List Int) : accP A B 8 % 340282366920938463463374607431768211456 = (bvL A * bvL B) % 340282366920938463463374607431768211456 := by
  have k0 : accP A B 0 % 340282366920938463463374607431768211456 = 0 % 340282366920938463463374607431768211456 := rfl
  have k1 : accP A B 1 % 340282366920938463463374607431768211456 = (0 + 1 * (rd A 0 * bvL B)) % 340282366920938463463374607431768211456 := acc_step _ _ _ _ _ (accP_step A B 0) (row0 (rd A 0) B) k0
  have k2 : accP A B 2 % 340282366920938463463374607431768211456 = (0 + 1 * (rd A 0 * bvL B) + 65536 * (rd A 1 * bvL B)) % 340282366920938463463374607431768211456 := acc_step _ _ _ _ _ (accP_step A B 1) (row1 (rd A 1) B) k1
  have k3 : accP A B 3 % 340282366920938463463374607431768211456 = (0 + 1 * (rd A 0 * bvL B) + 65536 * (rd A 1 * bvL B) + 4294967296 * (rd A 2 * bvL B)) % 340282366920938463463374607431768211456 := acc_step _ _ _ _ _ (accP_step A B 2) (row2 (rd A 2) B) k2
  have k4 : accP A B 4 % 340282366920938463463374607431768211456 = (0 + 1 * (rd A 0 * bvL B) + 65536 * (rd A 1 * bvL B) + 4294967296 * (rd A 2 * bvL B) + 281474976710656 * (rd A 3 * bvL B)) % 340282366920938463463374607431768211456 := acc_step _ _ _ _ _ (accP_step A B 3) (row3 (rd A 3) B) k3
  have k5 : accP A B 5 % 340282366920938463463374607431768211456 = (0 + 1 * (rd A 0 * bvL B) + 65536 * (rd A 1 * bvL B) + 4294967296 * (rd A 2 * bvL B) + 281474976710656 * (rd A 3 * bvL B) + 18446744073709551616 * (rd A 4 * bvL B)) % 340282366920938463463374607431768211456 := acc_step _ _ _ _ _ (accP_step A B 4) (row4 (rd A 4) B) k4
  have k6 : accP A B 6 % 340282366920938463463374607431768211456 = (0 + 1 * (rd A 0 * bvL B) + 65536 * (rd A 1 * bvL B) + 4294967296 * (rd A 2 * bvL B) + 281474976710656 * (rd A 3 * bvL B) + 18446744073709551616 * (rd A 4 * bvL B) + 1208925819614629174706176 * (rd A 5 * bvL B)) % 340282366920938463463374607431768211456 := acc_step _ _ _ _ _ (accP_step A B 5) (row5 (rd A 5) B) k5
  have k7 : accP A B 7 % 340282366920938463463374607431768211456 = (0 + 1 * (rd A 0 * bvL B) + 65536 * (rd A 1 * bvL B) + 4294967296 * (rd A 2 * bvL B) + 281474976710656 * (rd A 3 * bvL B) + 18446744073709551616 * (rd A 4 * bvL B) + 1208925819614629174706176 * (rd A 5 * bvL B) + 79228162514264337593543950336 * (rd A 6 * bvL B)) % 340282366920938463463374607431768211456 := acc_step _ _ _ _ _ (accP_step A B 6) (row6 (rd A 6) B) k6
  have k8 : accP A B 8 % 340282366920938463463374607431768211456 = (0 + 1 * (rd A 0 * bvL B) + 65536 * (rd A 1 * bvL B) + 4294967296 * (rd A 2 * bvL B) + 281474976710656 * (rd A 3 * bvL B) + 18446744073709551616 * (rd A 4 * bvL B) + 1208925819614629174706176 * (rd A 5 * bvL B) + 79228162514264337593543950336 * (rd A 6 * bvL B) + 5192296858534827628530496329220096 * (rd A 7 * bvL B)) % 340282366920938463463374607431768211456 := acc_step _ _ _ _ _ (accP_step A B 7) (row7 (rd A 7) B) k7
  rw [k8]
  clear k0 k1 k2 k3 k4 k5 k6 k7 k8
  have ea : bvL A = rd A 0 + 65536 * rd A 1 + 4294967296 * rd A 2 + 281474976710656 * rd A 3 + 18446744073709551616 * rd A 4 + 1208925819614629174706176 * rd A 5 + 79228162514264337593543950336 * rd A 6 + 5192296858534827628530496329220096 * rd A 7 := by simp only [bvL, bigV]; omega
  have eb : bvL A * bvL B = rd A 0 * bvL B + 65536 * (rd A 1 * bvL B) + 4294967296 * (rd A 2 * bvL B) + 281474976710656 * (rd A 3 * bvL B) + 18446744073709551616 * (rd A 4 * bvL B) + 1208925819614629174706176 * (rd A 5 * bvL B) + 79228162514264337593543950336 * (rd A 6 * bvL B) + 5192296858534827628530496329220096 * (rd A 7 * bvL B) := by
    rw [ea]
    simp only [Int.add_mul, Int.mul_assoc]
  rw [eb]
  clear ea eb
  generalize rd A 0 * bvL B = t0
  generalize rd A 1 * bvL B = t1
  generalize rd A 2 * bvL B = t2
  generalize rd A 3 * bvL B = t3
  generalize rd A 4 * bvL B = t4
  generalize rd A 5 * bvL B = t5
  generalize rd A 6 * bvL B = t6
  generalize rd A 7 * bvL B = t7
  congr 1
  omega
def offertoryref09_Mul.f (a0_0 a0_1 a0_2 a0_3 a0_4 a0_5 a0_6 a0_7 a1_0 a1_1 a1_2 a1_3 a1_4 a1_5 a1_6 a1_7 : Int) : Option (Int × Int × Int × Int × Int × Int × Int × Int) :=
  if Dig a0_0 a0_1 a0_2 a0_3 a0_4 a0_5 a0_6 a0_7 ∧ Dig a1_0 a1_1 a1_2 a1_3 a1_4 a1_5 a1_6 a1_7 then some (digs (bigV a0_0 a0_1 a0_2 a0_3 a0_4 a0_5 a0_6 a0_7 * bigV a1_0 a1_1 a1_2 a1_3 a1_4 a1_5 a1_6 a1_7)) else none
set_option maxRecDepth 100000 in
theorem offertoryref09_Mul.calls (a0_0 a0_1 a0_2 a0_3 a0_4 a0_5 a0_6 a0_7 a1_0 a1_1 a1_2 a1_3 a1_4 a1_5 a1_6 a1_7 r1 r2 r3 r4 r5 r6 r7 r8 : Int) (w : World) (h : offertoryref09_Mul.f a0_0 a0_1 a0_2 a0_3 a0_4 a0_5 a0_6 a0_7 a1_0 a1_1 a1_2 a1_3 a1_4 a1_5 a1_6 a1_7 = some (r1, r2, r3, r4, r5, r6, r7, r8)) :
    Calls Try.prog 19 #[.agg #[.int .u32 a0_0, .int .u32 a0_1, .int .u32 a0_2, .int .u32 a0_3, .int .u32 a0_4, .int .u32 a0_5, .int .u32 a0_6, .int .u32 a0_7], .agg #[.int .u32 a1_0, .int .u32 a1_1, .int .u32 a1_2, .int .u32 a1_3, .int .u32 a1_4, .int .u32 a1_5, .int .u32 a1_6, .int .u32 a1_7]] w fun e w' => e = .returned (.agg #[.int .u32 r1, .int .u32 r2, .int .u32 r3, .int .u32 r4, .int .u32 r5, .int .u32 r6, .int .u32 r7, .int .u32 r8]) ∧ Below w.heap.size w w' := by
  unfold offertoryref09_Mul.f at h
  split at h
  case isFalse => cases h
  rename_i hr
  refine (offertoryref09_Mul.calls0 [a0_0, a0_1, a0_2, a0_3, a0_4, a0_5, a0_6, a0_7] [a1_0, a1_1, a1_2, a1_3, a1_4, a1_5, a1_6, a1_7] hr.1.small hr.2.small w).mono ?_
  rintro e w' ⟨rfl, hb⟩
  refine ⟨?_, hb⟩
  rw [digL_mod (accP_prod [a0_0, a0_1, a0_2, a0_3, a0_4, a0_5, a0_6, a0_7] [a1_0, a1_1, a1_2, a1_3, a1_4, a1_5, a1_6, a1_7])]
  simp only [Option.some.injEq, digs, Prod.mk.injEq] at h
  obtain ⟨rfl, rfl, rfl, rfl, rfl, rfl, rfl, rfl⟩ := h
  rfl


end Go.Proofs.Ytdpekjffjobabaa.PAll
