/- The Go functions that the laws reach, as Lean functions, and that each call comes to what its function says. Written by a program of this session (a turned copy of the kit's print). No condition beyond those that each theorem states. -/
import Derived.Test.YtdpekjffjobabaaPAllx0
import Derived.Test.YtdpekjffjobabaaPAllx3
import Derived.Test.YtdpekjffjobabaaPAllx9
namespace Go.Proofs.Ytdpekjffjobabaa.PAll
open Go.RowKit Go.Proofs.YtdpekjffjobabaaW.PrintWords Go.Proofs.YtdpekjffjobabaaW.PrintLast Go.Proofs.YtdpekjffjobabaaW.PrintMore
attribute [local go_sem] max2_int min2_int max_two min_two max_three min_three max_four min_four   -- for this text's walks alone
set_option linter.unusedVariables false
set_option linter.unusedSimpArgs false

/-! ### offertoryref09_Big_Wide: function 20 -/
theorem or_low {x y : Int} (h0 : 0 ≤ x) (h1 : x < 281474976710656) (h2 : 0 ≤ y) (h3 : y ≤ 65535) : bits .or .u64 (x * 65536) y = x * 65536 + y := by
  obtain ⟨n, rfl⟩ := Int.eq_ofNat_of_zero_le h0
  obtain ⟨m, rfl⟩ := Int.eq_ofNat_of_zero_le h2
  have h := bits_or_u64_nat (n * 65536) m (by omega) (by omega)
  rw [show ((n * 65536 : Nat) : Int) = (n : Int) * 65536 by omega] at h
  rw [h, show n * 65536 = n <<< 16 by rw [Nat.shiftLeft_eq], ← Nat.shiftLeft_add_eq_or_of_lt (by omega), Nat.shiftLeft_eq]
  omega
theorem or_zero {y : Int} (h2 : 0 ≤ y) (h3 : y ≤ 65535) : bits .or .u64 0 y = y := by
  have := or_low (x := 0) (by omega) (by omega) h2 h3
  simpa using this
def offertoryref09_Big_Wide.f (a0_0 a0_1 a0_2 a0_3 a0_4 a0_5 a0_6 a0_7 : Int) : Option (Int × Int) :=
  if Dig a0_0 a0_1 a0_2 a0_3 a0_4 a0_5 a0_6 a0_7 then some (((a0_7 * 65536 + a0_6) * 65536 + a0_5) * 65536 + a0_4, ((a0_3 * 65536 + a0_2) * 65536 + a0_1) * 65536 + a0_0) else none
set_option maxHeartbeats 1600000 in
set_option maxRecDepth 100000 in
theorem offertoryref09_Big_Wide.calls (a0_0 a0_1 a0_2 a0_3 a0_4 a0_5 a0_6 a0_7 r1 r2 : Int) (w : World) (h : offertoryref09_Big_Wide.f a0_0 a0_1 a0_2 a0_3 a0_4 a0_5 a0_6 a0_7 = some (r1, r2)) :
    Calls Try.prog 20 #[.agg #[.int .u32 a0_0, .int .u32 a0_1, .int .u32 a0_2, .int .u32 a0_3, .int .u32 a0_4, .int .u32 a0_5, .int .u32 a0_6, .int .u32 a0_7]] w fun e w' => e = .returned (.agg #[.int .u64 r1, .int .u64 r2]) ∧ Below w.heap.size w w' := by
  unfold offertoryref09_Big_Wide.f at h
  split at h
  case isFalse => cases h
  rename_i hr
  simp only [Option.some.injEq, Prod.mk.injEq] at h
  obtain ⟨rfl, rfl⟩ := h
  unfold Dig at hr
  obtain ⟨⟨l0, m0⟩, ⟨l1, m1⟩, ⟨l2, m2⟩, ⟨l3, m3⟩, ⟨l4, m4⟩, ⟨l5, m5⟩, ⟨l6, m6⟩, ⟨l7, m7⟩⟩ := hr
  have hu29 := Try.underlying45
  have hu25 := Try.underlying27
  have o3 := or_zero l3 m3
  have o2 := or_low (x := a0_3) (y := a0_2) (by omega) (by omega) (by omega) (by omega)
  have o1 := or_low (x := a0_3 * 65536 + a0_2) (y := a0_1) (by omega) (by omega) (by omega) (by omega)
  have o0 := or_low (x := (a0_3 * 65536 + a0_2) * 65536 + a0_1) (y := a0_0) (by omega) (by omega) (by omega) (by omega)
  have o7 := or_zero l7 m7
  have o6 := or_low (x := a0_7) (y := a0_6) (by omega) (by omega) (by omega) (by omega)
  have o5 := or_low (x := a0_7 * 65536 + a0_6) (y := a0_5) (by omega) (by omega) (by omega) (by omega)
  have o4 := or_low (x := (a0_7 * 65536 + a0_6) * 65536 + a0_5) (y := a0_4) (by omega) (by omega) (by omega) (by omega)
  go_enter Try.func20, Try.ntmps20
  go_wp2
  refine wp_loop_rounds 5 ?_
  rw [rounds_succ]
  go_wp2
  go_region
  go_wp2
  go_region
  go_wp2
  rw [rounds_succ]
  go_wp2
  go_region
  go_wp2
  go_region
  go_wp2
  rw [rounds_succ]
  go_wp2
  go_region
  go_wp2
  go_region
  go_wp2
  rw [rounds_succ]
  go_wp2
  go_region
  go_wp2
  go_region
  go_wp2
  rw [rounds_succ]
  go_wp2
  refine bodyPost_ret (v := .agg #[.int .u64 (((a0_7 * 65536 + a0_6) * 65536 + a0_5) * 65536 + a0_4), .int .u64 (((a0_3 * 65536 + a0_2) * 65536 + a0_1) * 65536 + a0_0)]) (by simp [results, Try.results20, go_sem]) rfl ⟨rfl, ?_⟩
  repeat (first | (with_reducible exact Below.refl _ _) | apply below_alloc | apply below_drew)


/-! ### offertoryref09_Of: function 18 -/
def offertoryref09_Of.f (a0_0 a0_1 : Int) : Option (Int × Int × Int × Int × Int × Int × Int × Int) :=
  if (0 ≤ a0_0 ∧ a0_0 ≤ 18446744073709551615) ∧ (0 ≤ a0_1 ∧ a0_1 ≤ 18446744073709551615) then some (digs (a0_1 + a0_0 * 18446744073709551616)) else none
set_option maxHeartbeats 800000 in
set_option maxRecDepth 100000 in
theorem offertoryref09_Of.calls (a0_0 a0_1 r1 r2 r3 r4 r5 r6 r7 r8 : Int) (w : World) (h : offertoryref09_Of.f a0_0 a0_1 = some (r1, r2, r3, r4, r5, r6, r7, r8)) :
    Calls Try.prog 18 #[.agg #[.int .u64 a0_0, .int .u64 a0_1]] w fun e w' => e = .returned (.agg #[.int .u32 r1, .int .u32 r2, .int .u32 r3, .int .u32 r4, .int .u32 r5, .int .u32 r6, .int .u32 r7, .int .u32 r8]) ∧ Below w.heap.size w w' := by
  unfold offertoryref09_Of.f at h
  split at h
  case isFalse => cases h
  rename_i hr
  have H := Aside0.mk h
  clear h
  obtain ⟨⟨h0, h1⟩, l0, l1⟩ := hr
  have hu29 := Try.underlying45
  have hu25 := Try.underlying27
  go_enter Try.func18, Try.ntmps18
  go_wp2
  refine wp_loop_rounds 5 ?_
  rw [rounds_succ]
  go_wp2
  rw [rounds_succ]
  go_wp2
  rw [rounds_succ]
  go_wp2
  rw [rounds_succ]
  go_wp2
  rw [rounds_succ]
  go_wp2
  refine bodyPost_ret (v := .agg #[.int .u32 (bits .and .u64 a0_1 65535 % 4294967296), .int .u32 (bits .and .u64 (a0_1 / 65536) 65535 % 4294967296), .int .u32 (bits .and .u64 (a0_1 / 4294967296) 65535 % 4294967296), .int .u32 (bits .and .u64 (a0_1 / 281474976710656) 65535 % 4294967296), .int .u32 (bits .and .u64 a0_0 65535 % 4294967296), .int .u32 (bits .and .u64 (a0_0 / 65536) 65535 % 4294967296), .int .u32 (bits .and .u64 (a0_0 / 4294967296) 65535 % 4294967296), .int .u32 (bits .and .u64 (a0_0 / 281474976710656) 65535 % 4294967296)]) (by simp [results, Try.results18, go_sem]) rfl ⟨?_, ?_⟩
  · have h := H.out
    simp only [Option.some.injEq, digs, Prod.mk.injEq] at h
    obtain ⟨rfl, rfl, rfl, rfl, rfl, rfl, rfl, rfl⟩ := h
    have e0 : bits .and .u64 a0_1 65535 % 4294967296 = bigD (a0_1 + a0_0 * 18446744073709551616) 0 := by rw [and_65535 (by omega) (by omega)]; simp only [bigD]; omega
    have e1 : bits .and .u64 (a0_1 / 65536) 65535 % 4294967296 = bigD (a0_1 + a0_0 * 18446744073709551616) 1 := by rw [and_65535 (by omega) (by omega)]; simp only [bigD]; omega
    have e2 : bits .and .u64 (a0_1 / 4294967296) 65535 % 4294967296 = bigD (a0_1 + a0_0 * 18446744073709551616) 2 := by rw [and_65535 (by omega) (by omega)]; simp only [bigD]; omega
    have e3 : bits .and .u64 (a0_1 / 281474976710656) 65535 % 4294967296 = bigD (a0_1 + a0_0 * 18446744073709551616) 3 := by rw [and_65535 (by omega) (by omega)]; simp only [bigD]; omega
    have e4 : bits .and .u64 a0_0 65535 % 4294967296 = bigD (a0_1 + a0_0 * 18446744073709551616) 4 := by rw [and_65535 (by omega) (by omega)]; simp only [bigD]; omega
    have e5 : bits .and .u64 (a0_0 / 65536) 65535 % 4294967296 = bigD (a0_1 + a0_0 * 18446744073709551616) 5 := by rw [and_65535 (by omega) (by omega)]; simp only [bigD]; omega
    have e6 : bits .and .u64 (a0_0 / 4294967296) 65535 % 4294967296 = bigD (a0_1 + a0_0 * 18446744073709551616) 6 := by rw [and_65535 (by omega) (by omega)]; simp only [bigD]; omega
    have e7 : bits .and .u64 (a0_0 / 281474976710656) 65535 % 4294967296 = bigD (a0_1 + a0_0 * 18446744073709551616) 7 := by rw [and_65535 (by omega) (by omega)]; simp only [bigD]; omega
    rw [e0, e1, e2, e3, e4, e5, e6, e7]
  · repeat (first | (with_reducible exact Below.refl _ _) | apply below_alloc)


/-! ### offertoryref09_Int: function 29 -/
def offertoryref09_Int.f (a0 : Int) : Option (Int × Int × Int × Int × Int × Int × Int × Int) :=
  if -9223372036854775808 ≤ a0 ∧ a0 ≤ 9223372036854775807 then some (digs a0) else none
set_option maxHeartbeats 1600000 in
set_option maxRecDepth 100000 in
theorem offertoryref09_Int.calls (a0 r1 r2 r3 r4 r5 r6 r7 r8 : Int) (w : World) (h : offertoryref09_Int.f a0 = some (r1, r2, r3, r4, r5, r6, r7, r8)) :
    Calls Try.prog 29 #[.int .i64 a0] w fun e w' => e = .returned (.agg #[.int .u32 r1, .int .u32 r2, .int .u32 r3, .int .u32 r4, .int .u32 r5, .int .u32 r6, .int .u32 r7, .int .u32 r8]) ∧ Below w.heap.size w w' := by
  unfold offertoryref09_Int.f at h
  split at h
  case isFalse => cases h
  rename_i hr
  simp only [Option.some.injEq, digs, Prod.mk.injEq] at h
  have H := Aside0.mk h
  clear h
  have hu29 := Try.underlying45
  have hu25 := Try.underlying27
  by_cases hn : a0 < 0
  · have hof : offertoryref09_Of.f 0 (a0 + 18446744073709551616) = some (bigD (a0 + 18446744073709551616) 0, bigD (a0 + 18446744073709551616) 1, bigD (a0 + 18446744073709551616) 2, bigD (a0 + 18446744073709551616) 3, 0, 0, 0, 0) := by
      have y4 : bigD (a0 + 18446744073709551616) 4 = 0 := by simp only [bigD]; omega
      have y5 : bigD (a0 + 18446744073709551616) 5 = 0 := by simp only [bigD]; omega
      have y6 : bigD (a0 + 18446744073709551616) 6 = 0 := by simp only [bigD]; omega
      have y7 : bigD (a0 + 18446744073709551616) 7 = 0 := by simp only [bigD]; omega
      unfold offertoryref09_Of.f
      rw [if_pos (by omega)]
      simp only [digs, Int.zero_mul, Int.add_zero, y4, y5, y6, y7]
    have hw : IntKind.u64.wrap a0 = a0 + 18446744073709551616 := by rw [IntKind.wrap_u64]; omega
    obtain ⟨rfl, rfl, rfl, rfl, rfl, rfl, rfl, rfl⟩ := H.out
    have z0 : bigD a0 0 = bigD (a0 + 18446744073709551616) 0 := by simp only [bigD]; omega
    have z1 : bigD a0 1 = bigD (a0 + 18446744073709551616) 1 := by simp only [bigD]; omega
    have z2 : bigD a0 2 = bigD (a0 + 18446744073709551616) 2 := by simp only [bigD]; omega
    have z3 : bigD a0 3 = bigD (a0 + 18446744073709551616) 3 := by simp only [bigD]; omega
    have z4 : bigD a0 4 = 65535 := by simp only [bigD]; omega
    have z5 : bigD a0 5 = 65535 := by simp only [bigD]; omega
    have z6 : bigD a0 6 = 65535 := by simp only [bigD]; omega
    have z7 : bigD a0 7 = 65535 := by simp only [bigD]; omega
    rw [z0, z1, z2, z3, z4, z5, z6, z7]
    clear z0 z1 z2 z3 z4 z5 z6 z7
    have HOF := Aside0.mk hof
    have t1 : decide (a0 < 0) = true := decide_eq_true hn
    clear hof H
    go_enter Try.func29, Try.ntmps29
    go_wp2_with fail
    go_at_call 18
    refine (offertoryref09_Of.calls 0 (a0 + 18446744073709551616) _ _ _ _ _ _ _ _ _ HOF.out).mono ?_
    rintro e w' ⟨rfl, hb⟩
    have hR : ArrAt w' w.heap.size 45 .u32 [0, 0, 0, 0, 0, 0, 0, 0] := ArrAt.below (blk_new w (.cells (nums .u32 [0, 0, 0, 0, 0, 0, 0, 0]).toArray 45)) hb
    have HB := Aside0.mk (below_step (w := w) (by repeat (first | (with_reducible exact Below.refl _ _) | apply below_alloc)) hb)
    have HR := Aside0.mk hR
    have hz : w.heap.size < w'.heap.size := by have := hb.size; rw [alloc_size] at this; omega
    have d0 := hR.get 0 (by decide)
    have f0 := hR.frz 0
    have d1 := hR.get 1 (by decide)
    have f1 := hR.frz 1
    have d2 := hR.get 2 (by decide)
    have f2 := hR.frz 2
    have d3 := hR.get 3 (by decide)
    have f3 := hR.frz 3
    have d4 := hR.get 4 (by decide)
    have f4 := hR.frz 4
    have d5 := hR.get 5 (by decide)
    have f5 := hR.frz 5
    have d6 := hR.get 6 (by decide)
    have f6 := hR.frz 6
    have d7 := hR.get 7 (by decide)
    have f7 := hR.frz 7
    clear hb hR
    go_wp2
    refine wp_loop_rounds 5 ?_
    rw [rounds_succ]
    go_wp2
    rw [rounds_succ]
    go_wp2
    rw [rounds_succ]
    go_wp2
    rw [rounds_succ]
    go_wp2
    rw [rounds_succ]
    go_wp2
    have hp := (HR.out.put8 [bigD (a0 + 18446744073709551616) 0, bigD (a0 + 18446744073709551616) 1, bigD (a0 + 18446744073709551616) 2, bigD (a0 + 18446744073709551616) 3, 65535, 65535, 65535, 65535] rfl rfl).alloc (.cells #[.int .u32 (bigD (a0 + 18446744073709551616) 0), .int .u32 (bigD (a0 + 18446744073709551616) 1), .int .u32 (bigD (a0 + 18446744073709551616) 2), .int .u32 (bigD (a0 + 18446744073709551616) 3), .int .u32 65535, .int .u32 65535, .int .u32 65535, .int .u32 65535] 45)
    refine bodyPost_ret (results_cell_row rfl _ _ w.heap.size 45 (nums .u32 [bigD (a0 + 18446744073709551616) 0, bigD (a0 + 18446744073709551616) 1, bigD (a0 + 18446744073709551616) 2, bigD (a0 + 18446744073709551616) 3, 65535, 65535, 65535, 65535]).toArray (0, 0) _ rfl hp Try.underlying45 rfl (by kernel_rfl)) rfl ⟨rfl, ?_⟩
    repeat (first | (with_reducible exact HB.out) | (with_reducible refine below_alloc ?_ _) | (with_reducible refine below_set ?_ (by omega)))
  · have hof : offertoryref09_Of.f 0 a0 = some (r1, r2, r3, r4, r5, r6, r7, r8) := by
      unfold offertoryref09_Of.f
      rw [if_pos (by omega)]
      simp only [Int.zero_mul, Int.add_zero, digs, H.out]
    have hw : IntKind.u64.wrap a0 = a0 := by rw [IntKind.wrap_u64]; omega
    have HOF := Aside0.mk hof
    have t1 : decide (a0 < 0) = false := decide_eq_false hn
    clear hof H
    go_enter Try.func29, Try.ntmps29
    go_wp2_with fail
    go_at_call 18
    refine (offertoryref09_Of.calls 0 a0 _ _ _ _ _ _ _ _ _ HOF.out).mono ?_
    rintro e w' ⟨rfl, hb⟩
    have hR : ArrAt w' w.heap.size 45 .u32 [0, 0, 0, 0, 0, 0, 0, 0] := ArrAt.below (blk_new w (.cells (nums .u32 [0, 0, 0, 0, 0, 0, 0, 0]).toArray 45)) hb
    have HB := Aside0.mk (below_step (w := w) (by repeat (first | (with_reducible exact Below.refl _ _) | apply below_alloc)) hb)
    have HR := Aside0.mk hR
    have hz : w.heap.size < w'.heap.size := by have := hb.size; rw [alloc_size] at this; omega
    have d0 := hR.get 0 (by decide)
    have f0 := hR.frz 0
    have d1 := hR.get 1 (by decide)
    have f1 := hR.frz 1
    have d2 := hR.get 2 (by decide)
    have f2 := hR.frz 2
    have d3 := hR.get 3 (by decide)
    have f3 := hR.frz 3
    have d4 := hR.get 4 (by decide)
    have f4 := hR.frz 4
    have d5 := hR.get 5 (by decide)
    have f5 := hR.frz 5
    have d6 := hR.get 6 (by decide)
    have f6 := hR.frz 6
    have d7 := hR.get 7 (by decide)
    have f7 := hR.frz 7
    clear hb hR
    go_wp2
    refine wp_loop_rounds 1 ?_
    rw [rounds_succ]
    go_wp2
    have hp := (HR.out.put8 [r1, r2, r3, r4, r5, r6, r7, r8] rfl rfl).alloc (.cells #[.int .u32 r1, .int .u32 r2, .int .u32 r3, .int .u32 r4, .int .u32 r5, .int .u32 r6, .int .u32 r7, .int .u32 r8] 45)
    refine bodyPost_ret (results_cell_row rfl _ _ w.heap.size 45 (nums .u32 [r1, r2, r3, r4, r5, r6, r7, r8]).toArray (0, 0) _ rfl hp Try.underlying45 rfl (by kernel_rfl)) rfl ⟨rfl, ?_⟩
    repeat (first | (with_reducible exact HB.out) | (with_reducible refine below_alloc ?_ _) | (with_reducible refine below_set ?_ (by omega)))


/-! ### offertoryref09_Neg: function 47 -/
def offertoryref09_Neg.f (a0_0 a0_1 a0_2 a0_3 a0_4 a0_5 a0_6 a0_7 : Int) : Option (Int × Int × Int × Int × Int × Int × Int × Int) :=
  if Dig a0_0 a0_1 a0_2 a0_3 a0_4 a0_5 a0_6 a0_7 then some (digs (340282366920938463463374607431768211456 - bigV a0_0 a0_1 a0_2 a0_3 a0_4 a0_5 a0_6 a0_7)) else none
set_option maxHeartbeats 1600000 in
set_option maxRecDepth 100000 in
theorem offertoryref09_Neg.calls (a0_0 a0_1 a0_2 a0_3 a0_4 a0_5 a0_6 a0_7 r1 r2 r3 r4 r5 r6 r7 r8 : Int) (w : World) (h : offertoryref09_Neg.f a0_0 a0_1 a0_2 a0_3 a0_4 a0_5 a0_6 a0_7 = some (r1, r2, r3, r4, r5, r6, r7, r8)) :
    Calls Try.prog 47 #[.agg #[.int .u32 a0_0, .int .u32 a0_1, .int .u32 a0_2, .int .u32 a0_3, .int .u32 a0_4, .int .u32 a0_5, .int .u32 a0_6, .int .u32 a0_7]] w fun e w' => e = .returned (.agg #[.int .u32 r1, .int .u32 r2, .int .u32 r3, .int .u32 r4, .int .u32 r5, .int .u32 r6, .int .u32 r7, .int .u32 r8]) ∧ Below w.heap.size w w' := by
  unfold offertoryref09_Neg.f at h
  split at h
  case isFalse => cases h
  rename_i hr
  unfold Dig at hr
  have hadd : offertoryref09_Add.f (65535 - a0_0) (65535 - a0_1) (65535 - a0_2) (65535 - a0_3) (65535 - a0_4) (65535 - a0_5) (65535 - a0_6) (65535 - a0_7) 1 0 0 0 0 0 0 0 = some (r1, r2, r3, r4, r5, r6, r7, r8) := by
    unfold offertoryref09_Add.f
    rw [if_pos ⟨by unfold Dig; omega, by unfold Dig; omega⟩]
    rw [← h]
    congr 2
    simp only [bigV]
    omega
  have HADD := Aside0.mk hadd
  clear hadd h
  obtain ⟨⟨l0, m0⟩, ⟨l1, m1⟩, ⟨l2, m2⟩, ⟨l3, m3⟩, ⟨l4, m4⟩, ⟨l5, m5⟩, ⟨l6, m6⟩, ⟨l7, m7⟩⟩ := hr
  have hu29 := Try.underlying45
  go_enter Try.func47, Try.ntmps47
  go_wp2
  refine wp_loop_rounds 9 ?_
  rw [rounds_succ]
  go_wp2
  rw [rounds_succ]
  go_wp2
  rw [rounds_succ]
  go_wp2
  rw [rounds_succ]
  go_wp2
  rw [rounds_succ]
  go_wp2
  rw [rounds_succ]
  go_wp2
  rw [rounds_succ]
  go_wp2
  rw [rounds_succ]
  go_wp2
  rw [rounds_succ]
  go_wp2_with fail
  go_at_call 31
  refine (offertoryref09_Add.calls (65535 - a0_0) (65535 - a0_1) (65535 - a0_2) (65535 - a0_3) (65535 - a0_4) (65535 - a0_5) (65535 - a0_6) (65535 - a0_7) 1 0 0 0 0 0 0 0 r1 r2 r3 r4 r5 r6 r7 r8 _ HADD.out).mono ?_
  rintro e w' ⟨rfl, hb⟩
  have hR : ArrAt w' (w.heap.size + 1) 45 .u32 [0, 0, 0, 0, 0, 0, 0, 0] := by
    refine ArrAt.below ?_ hb
    have h := blk_new (w.alloc (.cells #[.int .u32 (65535 - a0_0), .int .u32 (65535 - a0_1), .int .u32 (65535 - a0_2), .int .u32 (65535 - a0_3), .int .u32 (65535 - a0_4), .int .u32 (65535 - a0_5), .int .u32 (65535 - a0_6), .int .u32 (65535 - a0_7)] 45)) (.cells (nums .u32 [0, 0, 0, 0, 0, 0, 0, 0]).toArray 45)
    rw [alloc_size] at h
    exact h
  have HB := Aside0.mk (below_step (w := w) (by repeat (first | (with_reducible exact Below.refl _ _) | apply below_alloc | apply below_drew)) hb)
  have HR := Aside0.mk hR
  have d0 := hR.get 0 (by decide)
  have f0 := hR.frz 0
  have d1 := hR.get 1 (by decide)
  have f1 := hR.frz 1
  have d2 := hR.get 2 (by decide)
  have f2 := hR.frz 2
  have d3 := hR.get 3 (by decide)
  have f3 := hR.frz 3
  have d4 := hR.get 4 (by decide)
  have f4 := hR.frz 4
  have d5 := hR.get 5 (by decide)
  have f5 := hR.frz 5
  have d6 := hR.get 6 (by decide)
  have f6 := hR.frz 6
  have d7 := hR.get 7 (by decide)
  have f7 := hR.frz 7
  clear hb hR
  go_wp2
  have hp := HR.out.put8 [r1, r2, r3, r4, r5, r6, r7, r8] rfl rfl
  refine bodyPost_ret (results_cell_row rfl _ _ (w.heap.size + 1) 45 (nums .u32 [r1, r2, r3, r4, r5, r6, r7, r8]).toArray (0, 0) _ rfl hp Try.underlying45 rfl (by kernel_rfl)) rfl ⟨rfl, ?_⟩
  repeat (first | (with_reducible exact HB.out) | (refine below_set ?_ (by omega)))


theorem offertoryref09_Signed.keepB {W0 W w1 : World} {g : Nat} {o : Obj} (h : Aside0 (W0.heap[g]? = some o)) (hb : Below W.heap.size W w1) (hs : W0.heap[g]? = some o → W.heap[g]? = some o := by intro h_; (with_reducible repeat (first | refine blk_drewN ?_ _ | refine blk_drew ?_ | refine blk_alloc ?_ _)); exact h_) : Aside0 (w1.heap[g]? = some o) := ⟨(hb.block g (blk_lt (hs h.out))).trans (hs h.out)⟩
theorem offertoryref09_Signed.neL {W0 W : World} {g gb : Nat} {o : Obj} (h : Aside0 (W0.heap[g]? = some o)) (hg : gb = W.heap.size) (hs : W0.heap[g]? = some o → W.heap[g]? = some o := by intro h_; (with_reducible repeat (first | refine blk_drewN ?_ _ | refine blk_drew ?_ | refine blk_alloc ?_ _)); exact h_) : Aside0 (g ≠ gb) := ⟨by rw [hg]; exact Nat.ne_of_lt (blk_lt (hs h.out))⟩
theorem offertoryref09_Signed.neG {W0 W : World} {g gb : Nat} {o : Obj} (h : Aside0 (W0.heap[g]? = some o)) (hg : gb = W.heap.size) (hs : W0.heap[g]? = some o → W.heap[g]? = some o := by intro h_; (with_reducible repeat (first | refine blk_drewN ?_ _ | refine blk_drew ?_ | refine blk_alloc ?_ _)); exact h_) : Aside0 (gb ≠ g) := ⟨by rw [hg]; exact Nat.ne_of_gt (blk_lt (hs h.out))⟩
/-! ### offertoryref09_Signed: function 32 -/
def offertoryref09_Signed.f (a0_0 : Int) (a0_1 : Int) (a0_2 : Int) (a0_3 : Int) (a0_4 : Int) (a0_5 : Int) (a0_6 : Int) (a0_7 : Int) : Option (Int × Int × Int × Int × Int × Int × Int × Int × Bool) := if a0_7 ≥ 32768 then ((offertoryref09_Neg.f a0_0 a0_1 a0_2 a0_3 a0_4 a0_5 a0_6 a0_7).bind fun bt239 => (some (bt239.1, bt239.2.1, bt239.2.2.1, bt239.2.2.2.1, bt239.2.2.2.2.1, bt239.2.2.2.2.2.1, bt239.2.2.2.2.2.2.1, bt239.2.2.2.2.2.2.2, true))) else (some (a0_0, a0_1, a0_2, a0_3, a0_4, a0_5, a0_6, a0_7, false))
set_option maxHeartbeats 8000000 in
set_option maxRecDepth 100000 in
theorem offertoryref09_Signed.calls (a0_0 : Int) (a0_1 : Int) (a0_2 : Int) (a0_3 : Int) (a0_4 : Int) (a0_5 : Int) (a0_6 : Int) (a0_7 : Int) (r1 : Int) (r2 : Int) (r3 : Int) (r4 : Int) (r5 : Int) (r6 : Int) (r7 : Int) (r8 : Int) (r9 : Bool) (w : World) (h : offertoryref09_Signed.f a0_0 a0_1 a0_2 a0_3 a0_4 a0_5 a0_6 a0_7 = some (r1, r2, r3, r4, r5, r6, r7, r8, r9)) :
    Calls Try.prog 32 #[.agg #[.int .u32 a0_0, .int .u32 a0_1, .int .u32 a0_2, .int .u32 a0_3, .int .u32 a0_4, .int .u32 a0_5, .int .u32 a0_6, .int .u32 a0_7]] w fun e w' => e = .returned (.tuple #[.agg #[.int .u32 r1, .int .u32 r2, .int .u32 r3, .int .u32 r4, .int .u32 r5, .int .u32 r6, .int .u32 r7, .int .u32 r8], .bool r9]) ∧ Below w.heap.size w w' := by
  have hu45 := Try.underlying45
  have HB := Aside0.mk (Below.refl w.heap.size w)
  have H : (if a0_7 ≥ 32768 then ((offertoryref09_Neg.f a0_0 a0_1 a0_2 a0_3 a0_4 a0_5 a0_6 a0_7).bind fun bt239 => (some (bt239.1, bt239.2.1, bt239.2.2.1, bt239.2.2.2.1, bt239.2.2.2.2.1, bt239.2.2.2.2.2.1, bt239.2.2.2.2.2.2.1, bt239.2.2.2.2.2.2.2, true))) else (some (a0_0, a0_1, a0_2, a0_3, a0_4, a0_5, a0_6, a0_7, false))) = some (r1, r2, r3, r4, r5, r6, r7, r8, r9) := h
  clear h
  by_cases c2 : a0_7 ≥ 32768
  · rw [if_pos c2] at H
    have c2b0 : decide (32768 ≤ a0_7) = true := decide_eq_true c2
    clear c2
    replace H := Option.bind_eq_some_iff.mp H
    obtain ⟨⟨t239, t240, t241, t242, t243, t244, t245, t246⟩, A30, H⟩ := H
    replace H : (some (t239, t240, t241, t242, t243, t244, t245, t246, true)) = some (r1, r2, r3, r4, r5, r6, r7, r8, r9) := H
    have A3 := Aside0.mk A30
    clear A30
    simp only [Option.some.injEq, Prod.mk.injEq] at H
    obtain ⟨rfl, rfl, rfl, rfl, rfl, rfl, rfl, rfl, rfl⟩ := H
    go_enter Try.func32, Try.ntmps32
    go_wp2_with (first | ((with_reducible refine gate_dst (N := 1) rfl ?_); refine box_event ?hg (N := 1) ?hd (cs := #[.int .u32 a0_0, .int .u32 a0_1, .int .u32 a0_2, .int .u32 a0_3, .int .u32 a0_4, .int .u32 a0_5, .int .u32 a0_6, .int .u32 a0_7]) (t := 45) ?hr ?_; (case hd => rfl); (case hg => rfl); (case hr => first | (go_simp; done) | (go_simp; rfl)); intro gb237 hg w4 hbox hb; have n0_ := Aside0.mk (below_step (by repeat (first | (with_reducible first | exact HB.out | apply below_alloc | apply pw_below_drewN | apply below_drew1) | exact HB.out)) hb); have n1_ := Aside0.mk (hbox); have n2_ := Aside0.mk ((by rw [hg]; exact (below_size (by repeat (first | (with_reducible first | exact HB.out | apply below_alloc | apply pw_below_drewN | apply below_drew1) | exact HB.out))) : w.heap.size ≤ gb237)); have n3_ := Aside0.mk ((by rw [hg]; exact (below_size (by repeat (first | (with_reducible first | exact HB.out | apply below_alloc | apply pw_below_drewN | apply below_drew1) | exact HB.out))) : w.heap.size ≤ gb237)); clear HB; have HB := n0_; have BK237 := n1_; have GW237 := n2_; have GE237 := n3_; clear n0_ n1_ n2_ n3_; clear hb hbox hg) | ((with_reducible refine gate_dst (N := 2) rfl ?_); refine box_event ?hg (N := 2) ?hd (cs := #[.int .u32 0, .int .u32 0, .int .u32 0, .int .u32 0, .int .u32 0, .int .u32 0, .int .u32 0, .int .u32 0]) (t := 45) ?hr ?_; (case hd => rfl); (case hg => rfl); (case hr => first | (go_simp; done) | (go_simp; rfl)); intro gb238 hg w5 hbox hb; have n0_ := offertoryref09_Signed.keepB BK237 hb; have n1_ := Aside0.mk (below_step (by repeat (first | (with_reducible first | exact HB.out | apply below_alloc | apply pw_below_drewN | apply below_drew1 | refine below_set ?_ GE237.out) | exact HB.out)) hb); have n2_ := Aside0.mk (hbox); have n3_ := Aside0.mk ((by rw [hg]; exact (below_size (by repeat (first | (with_reducible first | exact HB.out | apply below_alloc | apply pw_below_drewN | apply below_drew1 | refine below_set ?_ GE237.out) | exact HB.out))) : w.heap.size ≤ gb238)); have n4_ := Aside0.mk ((by rw [hg]; exact (below_size (by repeat (first | (with_reducible first | exact HB.out | apply below_alloc | apply pw_below_drewN | apply below_drew1 | refine below_set ?_ GE237.out) | exact HB.out))) : w.heap.size ≤ gb238)); have n5_ := offertoryref09_Signed.neL BK237 hg; have n6_ := offertoryref09_Signed.neG BK237 hg; clear BK237; clear HB; have BK237 := n0_; have HB := n1_; have BK238 := n2_; have GW238 := n3_; have GE238 := n4_; have NB237_238 := n5_; have NB238_237 := n6_; clear n0_ n1_ n2_ n3_ n4_ n5_ n6_; clear hb hbox hg; have hnb6 := NB237_238.out; have hnc6 := NB238_237.out; have hcz7_0 : w5.cell? ⟨gb237, 0, none⟩ = some (.int .u32 a0_0) := (blk_cell BK237.out 0).trans rfl; have hcz7_1 : w5.cell? ⟨gb237, 1, none⟩ = some (.int .u32 a0_1) := (blk_cell BK237.out 1).trans rfl; have hcz7_2 : w5.cell? ⟨gb237, 2, none⟩ = some (.int .u32 a0_2) := (blk_cell BK237.out 2).trans rfl; have hcz7_3 : w5.cell? ⟨gb237, 3, none⟩ = some (.int .u32 a0_3) := (blk_cell BK237.out 3).trans rfl; have hcz7_4 : w5.cell? ⟨gb237, 4, none⟩ = some (.int .u32 a0_4) := (blk_cell BK237.out 4).trans rfl; have hcz7_5 : w5.cell? ⟨gb237, 5, none⟩ = some (.int .u32 a0_5) := (blk_cell BK237.out 5).trans rfl; have hcz7_6 : w5.cell? ⟨gb237, 6, none⟩ = some (.int .u32 a0_6) := (blk_cell BK237.out 6).trans rfl; have hcz7_7 : w5.cell? ⟨gb237, 7, none⟩ = some (.int .u32 a0_7) := (blk_cell BK237.out 7).trans rfl; have hfz7_0 := blk_frozen BK237.out 0; have hfz7_1 := blk_frozen BK237.out 1; have hfz7_2 := blk_frozen BK237.out 2; have hfz7_3 := blk_frozen BK237.out 3; have hfz7_4 := blk_frozen BK237.out 4; have hfz7_5 := blk_frozen BK237.out 5; have hfz7_6 := blk_frozen BK237.out 6; have hfz7_7 := blk_frozen BK237.out 7) | ((with_reducible refine gate_callee (f := 47) rfl ?_); refine goesL_ (some 8) rfl rfl Try.func47 (by kernel_rfl) rfl #[.agg #[.int .u32 a0_0, .int .u32 a0_1, .int .u32 a0_2, .int .u32 a0_3, .int .u32 a0_4, .int .u32 a0_5, .int .u32 a0_6, .int .u32 a0_7]] rfl (by (try simp only [List.map_toArray, List.map_cons, List.map_nil]); first | done | rfl | (simp only [List.length_drop, List.length_take]; rfl)) ?_; (with_reducible refine (offertoryref09_Neg.calls a0_0 a0_1 a0_2 a0_3 a0_4 a0_5 a0_6 a0_7 t239 t240 t241 t242 t243 t244 t245 t246 _ A3.out).mono ?_); rintro e w8 ⟨rfl, hb⟩; refine ⟨_, rfl, ?_⟩; have n0_ := offertoryref09_Signed.keepB BK237 hb; have n1_ := offertoryref09_Signed.keepB BK238 hb; have n2_ := Aside0.mk (below_step (by repeat (first | (with_reducible first | exact HB.out | apply below_alloc | apply pw_below_drewN | apply below_drew1 | refine below_set ?_ GE237.out | refine below_set ?_ GE238.out) | exact HB.out)) hb); clear BK237; clear BK238; clear HB; have BK237 := n0_; have BK238 := n1_; have HB := n2_; clear n0_ n1_ n2_; (try clear hb); (try clear hb2); (try clear hk); (try clear hi); have hcz9_0 : w8.cell? ⟨gb238, 0, none⟩ = some (.int .u32 0) := (blk_cell BK238.out 0).trans rfl; have hcz9_1 : w8.cell? ⟨gb238, 1, none⟩ = some (.int .u32 0) := (blk_cell BK238.out 1).trans rfl; have hcz9_2 : w8.cell? ⟨gb238, 2, none⟩ = some (.int .u32 0) := (blk_cell BK238.out 2).trans rfl; have hcz9_3 : w8.cell? ⟨gb238, 3, none⟩ = some (.int .u32 0) := (blk_cell BK238.out 3).trans rfl; have hcz9_4 : w8.cell? ⟨gb238, 4, none⟩ = some (.int .u32 0) := (blk_cell BK238.out 4).trans rfl; have hcz9_5 : w8.cell? ⟨gb238, 5, none⟩ = some (.int .u32 0) := (blk_cell BK238.out 5).trans rfl; have hcz9_6 : w8.cell? ⟨gb238, 6, none⟩ = some (.int .u32 0) := (blk_cell BK238.out 6).trans rfl; have hcz9_7 : w8.cell? ⟨gb238, 7, none⟩ = some (.int .u32 0) := (blk_cell BK238.out 7).trans rfl; have hfz9_0 := blk_frozen BK238.out 0; have hfz9_1 := blk_frozen BK238.out 1; have hfz9_2 := blk_frozen BK238.out 2; have hfz9_3 := blk_frozen BK238.out 3; have hfz9_4 := blk_frozen BK238.out 4; have hfz9_5 := blk_frozen BK238.out 5; have hfz9_6 := blk_frozen BK238.out 6; have hfz9_7 := blk_frozen BK238.out 7))
    refine bodyPost_ret (results_ct rfl _ _ gb238 45 #[.int .u32 t239, .int .u32 t240, .int .u32 t241, .int .u32 t242, .int .u32 t243, .int .u32 t244, .int .u32 t245, .int .u32 t246] (0, 0) _ rfl (by (with_reducible repeat (first | refine blk_drewN ?_ _ | refine blk_drew ?_ | refine blk_alloc ?_ _)); refine blk_put (cs := #[.int .u32 t239, .int .u32 t240, .int .u32 t241, .int .u32 t242, .int .u32 t243, .int .u32 t244, .int .u32 t245, .int .u32 0]) ?_ 7 _ rfl; (with_reducible repeat (first | refine blk_drewN ?_ _ | refine blk_drew ?_ | refine blk_alloc ?_ _)); refine blk_put (cs := #[.int .u32 t239, .int .u32 t240, .int .u32 t241, .int .u32 t242, .int .u32 t243, .int .u32 t244, .int .u32 0, .int .u32 0]) ?_ 6 _ rfl; (with_reducible repeat (first | refine blk_drewN ?_ _ | refine blk_drew ?_ | refine blk_alloc ?_ _)); refine blk_put (cs := #[.int .u32 t239, .int .u32 t240, .int .u32 t241, .int .u32 t242, .int .u32 t243, .int .u32 0, .int .u32 0, .int .u32 0]) ?_ 5 _ rfl; (with_reducible repeat (first | refine blk_drewN ?_ _ | refine blk_drew ?_ | refine blk_alloc ?_ _)); refine blk_put (cs := #[.int .u32 t239, .int .u32 t240, .int .u32 t241, .int .u32 t242, .int .u32 0, .int .u32 0, .int .u32 0, .int .u32 0]) ?_ 4 _ rfl; (with_reducible repeat (first | refine blk_drewN ?_ _ | refine blk_drew ?_ | refine blk_alloc ?_ _)); refine blk_put (cs := #[.int .u32 t239, .int .u32 t240, .int .u32 t241, .int .u32 0, .int .u32 0, .int .u32 0, .int .u32 0, .int .u32 0]) ?_ 3 _ rfl; (with_reducible repeat (first | refine blk_drewN ?_ _ | refine blk_drew ?_ | refine blk_alloc ?_ _)); refine blk_put (cs := #[.int .u32 t239, .int .u32 t240, .int .u32 0, .int .u32 0, .int .u32 0, .int .u32 0, .int .u32 0, .int .u32 0]) ?_ 2 _ rfl; (with_reducible repeat (first | refine blk_drewN ?_ _ | refine blk_drew ?_ | refine blk_alloc ?_ _)); refine blk_put (cs := #[.int .u32 t239, .int .u32 0, .int .u32 0, .int .u32 0, .int .u32 0, .int .u32 0, .int .u32 0, .int .u32 0]) ?_ 1 _ rfl; (with_reducible repeat (first | refine blk_drewN ?_ _ | refine blk_drew ?_ | refine blk_alloc ?_ _)); refine blk_put (cs := #[.int .u32 0, .int .u32 0, .int .u32 0, .int .u32 0, .int .u32 0, .int .u32 0, .int .u32 0, .int .u32 0]) ?_ 0 _ rfl; (with_reducible repeat (first | refine blk_drewN ?_ _ | refine blk_drew ?_ | refine blk_alloc ?_ _)); exact BK238.out) Try.underlying45 rfl (by kernel_rfl)) rfl ?_
    exact ⟨by first | rfl | (simp [errW_none, errW_some] <;> rfl) | (simp [*, errW_none, errW_some] <;> rfl), by repeat (first | (with_reducible first | exact HB.out | apply below_alloc | apply pw_below_drewN | apply below_drew1 | refine below_set ?_ GE237.out | refine below_set ?_ GE238.out) | exact HB.out)⟩
  · rw [if_neg c2] at H
    have c2b0 : decide (32768 ≤ a0_7) = false := decide_eq_false c2
    clear c2
    simp only [Option.some.injEq, Prod.mk.injEq] at H
    obtain ⟨rfl, rfl, rfl, rfl, rfl, rfl, rfl, rfl, rfl⟩ := H
    go_enter Try.func32, Try.ntmps32
    go_wp2_with (first | ((with_reducible refine gate_dst (N := 1) rfl ?_); refine box_event ?hg (N := 1) ?hd (cs := #[.int .u32 a0_0, .int .u32 a0_1, .int .u32 a0_2, .int .u32 a0_3, .int .u32 a0_4, .int .u32 a0_5, .int .u32 a0_6, .int .u32 a0_7]) (t := 45) ?hr ?_; (case hd => rfl); (case hg => rfl); (case hr => first | (go_simp; done) | (go_simp; rfl)); intro gb237 hg w10 hbox hb; have n0_ := Aside0.mk (below_step (by repeat (first | (with_reducible first | exact HB.out | apply below_alloc | apply pw_below_drewN | apply below_drew1) | exact HB.out)) hb); have n1_ := Aside0.mk (hbox); have n2_ := Aside0.mk ((by rw [hg]; exact (below_size (by repeat (first | (with_reducible first | exact HB.out | apply below_alloc | apply pw_below_drewN | apply below_drew1) | exact HB.out))) : w.heap.size ≤ gb237)); have n3_ := Aside0.mk ((by rw [hg]; exact (below_size (by repeat (first | (with_reducible first | exact HB.out | apply below_alloc | apply pw_below_drewN | apply below_drew1) | exact HB.out))) : w.heap.size ≤ gb237)); clear HB; have HB := n0_; have BK237 := n1_; have GW237 := n2_; have GE237 := n3_; clear n0_ n1_ n2_ n3_; clear hb hbox hg) | ((with_reducible refine gate_dst (N := 2) rfl ?_); refine box_event ?hg (N := 2) ?hd (cs := #[.int .u32 0, .int .u32 0, .int .u32 0, .int .u32 0, .int .u32 0, .int .u32 0, .int .u32 0, .int .u32 0]) (t := 45) ?hr ?_; (case hd => rfl); (case hg => rfl); (case hr => first | (go_simp; done) | (go_simp; rfl)); intro gb238 hg w11 hbox hb; have n0_ := offertoryref09_Signed.keepB BK237 hb; have n1_ := Aside0.mk (below_step (by repeat (first | (with_reducible first | exact HB.out | apply below_alloc | apply pw_below_drewN | apply below_drew1 | refine below_set ?_ GE237.out) | exact HB.out)) hb); have n2_ := Aside0.mk (hbox); have n3_ := Aside0.mk ((by rw [hg]; exact (below_size (by repeat (first | (with_reducible first | exact HB.out | apply below_alloc | apply pw_below_drewN | apply below_drew1 | refine below_set ?_ GE237.out) | exact HB.out))) : w.heap.size ≤ gb238)); have n4_ := Aside0.mk ((by rw [hg]; exact (below_size (by repeat (first | (with_reducible first | exact HB.out | apply below_alloc | apply pw_below_drewN | apply below_drew1 | refine below_set ?_ GE237.out) | exact HB.out))) : w.heap.size ≤ gb238)); have n5_ := offertoryref09_Signed.neL BK237 hg; have n6_ := offertoryref09_Signed.neG BK237 hg; clear BK237; clear HB; have BK237 := n0_; have HB := n1_; have BK238 := n2_; have GW238 := n3_; have GE238 := n4_; have NB237_238 := n5_; have NB238_237 := n6_; clear n0_ n1_ n2_ n3_ n4_ n5_ n6_; clear hb hbox hg; have hnb12 := NB237_238.out; have hnc12 := NB238_237.out; have hcz13_0 : w11.cell? ⟨gb237, 0, none⟩ = some (.int .u32 a0_0) := (blk_cell BK237.out 0).trans rfl; have hcz13_1 : w11.cell? ⟨gb237, 1, none⟩ = some (.int .u32 a0_1) := (blk_cell BK237.out 1).trans rfl; have hcz13_2 : w11.cell? ⟨gb237, 2, none⟩ = some (.int .u32 a0_2) := (blk_cell BK237.out 2).trans rfl; have hcz13_3 : w11.cell? ⟨gb237, 3, none⟩ = some (.int .u32 a0_3) := (blk_cell BK237.out 3).trans rfl; have hcz13_4 : w11.cell? ⟨gb237, 4, none⟩ = some (.int .u32 a0_4) := (blk_cell BK237.out 4).trans rfl; have hcz13_5 : w11.cell? ⟨gb237, 5, none⟩ = some (.int .u32 a0_5) := (blk_cell BK237.out 5).trans rfl; have hcz13_6 : w11.cell? ⟨gb237, 6, none⟩ = some (.int .u32 a0_6) := (blk_cell BK237.out 6).trans rfl; have hcz13_7 : w11.cell? ⟨gb237, 7, none⟩ = some (.int .u32 a0_7) := (blk_cell BK237.out 7).trans rfl; have hfz13_0 := blk_frozen BK237.out 0; have hfz13_1 := blk_frozen BK237.out 1; have hfz13_2 := blk_frozen BK237.out 2; have hfz13_3 := blk_frozen BK237.out 3; have hfz13_4 := blk_frozen BK237.out 4; have hfz13_5 := blk_frozen BK237.out 5; have hfz13_6 := blk_frozen BK237.out 6; have hfz13_7 := blk_frozen BK237.out 7; have hcz14_0 : w11.cell? ⟨gb238, 0, none⟩ = some (.int .u32 0) := (blk_cell BK238.out 0).trans rfl; have hcz14_1 : w11.cell? ⟨gb238, 1, none⟩ = some (.int .u32 0) := (blk_cell BK238.out 1).trans rfl; have hcz14_2 : w11.cell? ⟨gb238, 2, none⟩ = some (.int .u32 0) := (blk_cell BK238.out 2).trans rfl; have hcz14_3 : w11.cell? ⟨gb238, 3, none⟩ = some (.int .u32 0) := (blk_cell BK238.out 3).trans rfl; have hcz14_4 : w11.cell? ⟨gb238, 4, none⟩ = some (.int .u32 0) := (blk_cell BK238.out 4).trans rfl; have hcz14_5 : w11.cell? ⟨gb238, 5, none⟩ = some (.int .u32 0) := (blk_cell BK238.out 5).trans rfl; have hcz14_6 : w11.cell? ⟨gb238, 6, none⟩ = some (.int .u32 0) := (blk_cell BK238.out 6).trans rfl; have hcz14_7 : w11.cell? ⟨gb238, 7, none⟩ = some (.int .u32 0) := (blk_cell BK238.out 7).trans rfl; have hfz14_0 := blk_frozen BK238.out 0; have hfz14_1 := blk_frozen BK238.out 1; have hfz14_2 := blk_frozen BK238.out 2; have hfz14_3 := blk_frozen BK238.out 3; have hfz14_4 := blk_frozen BK238.out 4; have hfz14_5 := blk_frozen BK238.out 5; have hfz14_6 := blk_frozen BK238.out 6; have hfz14_7 := blk_frozen BK238.out 7))
    refine bodyPost_ret (results_ct rfl _ _ gb238 45 #[.int .u32 a0_0, .int .u32 a0_1, .int .u32 a0_2, .int .u32 a0_3, .int .u32 a0_4, .int .u32 a0_5, .int .u32 a0_6, .int .u32 a0_7] (0, 0) _ rfl (by (with_reducible repeat (first | refine blk_drewN ?_ _ | refine blk_drew ?_ | refine blk_alloc ?_ _)); refine blk_put (cs := #[.int .u32 a0_0, .int .u32 a0_1, .int .u32 a0_2, .int .u32 a0_3, .int .u32 a0_4, .int .u32 a0_5, .int .u32 a0_6, .int .u32 0]) ?_ 7 _ rfl; (with_reducible repeat (first | refine blk_drewN ?_ _ | refine blk_drew ?_ | refine blk_alloc ?_ _)); refine blk_put (cs := #[.int .u32 a0_0, .int .u32 a0_1, .int .u32 a0_2, .int .u32 a0_3, .int .u32 a0_4, .int .u32 a0_5, .int .u32 0, .int .u32 0]) ?_ 6 _ rfl; (with_reducible repeat (first | refine blk_drewN ?_ _ | refine blk_drew ?_ | refine blk_alloc ?_ _)); refine blk_put (cs := #[.int .u32 a0_0, .int .u32 a0_1, .int .u32 a0_2, .int .u32 a0_3, .int .u32 a0_4, .int .u32 0, .int .u32 0, .int .u32 0]) ?_ 5 _ rfl; (with_reducible repeat (first | refine blk_drewN ?_ _ | refine blk_drew ?_ | refine blk_alloc ?_ _)); refine blk_put (cs := #[.int .u32 a0_0, .int .u32 a0_1, .int .u32 a0_2, .int .u32 a0_3, .int .u32 0, .int .u32 0, .int .u32 0, .int .u32 0]) ?_ 4 _ rfl; (with_reducible repeat (first | refine blk_drewN ?_ _ | refine blk_drew ?_ | refine blk_alloc ?_ _)); refine blk_put (cs := #[.int .u32 a0_0, .int .u32 a0_1, .int .u32 a0_2, .int .u32 0, .int .u32 0, .int .u32 0, .int .u32 0, .int .u32 0]) ?_ 3 _ rfl; (with_reducible repeat (first | refine blk_drewN ?_ _ | refine blk_drew ?_ | refine blk_alloc ?_ _)); refine blk_put (cs := #[.int .u32 a0_0, .int .u32 a0_1, .int .u32 0, .int .u32 0, .int .u32 0, .int .u32 0, .int .u32 0, .int .u32 0]) ?_ 2 _ rfl; (with_reducible repeat (first | refine blk_drewN ?_ _ | refine blk_drew ?_ | refine blk_alloc ?_ _)); refine blk_put (cs := #[.int .u32 a0_0, .int .u32 0, .int .u32 0, .int .u32 0, .int .u32 0, .int .u32 0, .int .u32 0, .int .u32 0]) ?_ 1 _ rfl; (with_reducible repeat (first | refine blk_drewN ?_ _ | refine blk_drew ?_ | refine blk_alloc ?_ _)); refine blk_put (cs := #[.int .u32 0, .int .u32 0, .int .u32 0, .int .u32 0, .int .u32 0, .int .u32 0, .int .u32 0, .int .u32 0]) ?_ 0 _ rfl; (with_reducible repeat (first | refine blk_drewN ?_ _ | refine blk_drew ?_ | refine blk_alloc ?_ _)); exact BK238.out) Try.underlying45 rfl (by kernel_rfl)) rfl ?_
    exact ⟨by first | rfl | (simp [errW_none, errW_some] <;> rfl) | (simp [*, errW_none, errW_some] <;> rfl), by repeat (first | (with_reducible first | exact HB.out | apply below_alloc | apply pw_below_drewN | apply below_drew1 | refine below_set ?_ GE237.out | refine below_set ?_ GE238.out) | exact HB.out)⟩

/-! ### operations of open order, each shown once: what they leave is told by facts that last -/
def updS (s : Nat → Value) (d : Nat) (v : Value) : Nat → Value := fun k => if k = d then v else s k
def updO (s : Nat → Value) : Option Tmp → Value → Nat → Value
  | some d, v => updS s d v
  | none, _ => s
def putS (a : Act) (sl : List Nat) (s : Nat → Value) : Act := putAll a (sl.map fun d => (d, s d))
theorem putS_cons (a : Act) (d : Nat) (sl : List Nat) (s : Nat → Value) : putS a (d :: sl) s = putS (a.put (some d) (s d)) sl s := rfl
theorem putS_defers (s : Nat → Value) : ∀ (sl : List Nat) (a : Act), (putS a sl s).defers = a.defers
  | [], _ => rfl
  | d :: sl, a => by rw [putS_cons, putS_defers s sl]; rfl
theorem putS_get (s : Nat → Value) : ∀ (sl : List Nat) (a : Act) (k : Nat), (putS a sl s).tmps[k]? = if k ∈ sl ∧ k < a.tmps.size then some (s k) else a.tmps[k]?
  | [], a, k => by simp [putS, putAll]
  | d :: sl, a, k => by
    rw [putS_cons, putS_get s sl]
    show (if k ∈ sl ∧ k < (a.tmps.setIfInBounds d (s d)).size then some (s k) else (a.tmps.setIfInBounds d (s d))[k]?) = _
    rw [Array.size_setIfInBounds, Array.getElem?_setIfInBounds]
    by_cases h1 : k < a.tmps.size
    · by_cases h2 : k ∈ sl
      · rw [if_pos ⟨h2, h1⟩, if_pos ⟨List.mem_cons_of_mem _ h2, h1⟩]
      · rw [if_neg (fun h => h2 h.1)]
        by_cases h3 : d = k
        · subst h3
          rw [if_pos rfl, if_pos h1, if_pos ⟨List.mem_cons_self .., h1⟩]
        · rw [if_neg h3, if_neg (fun h : k ∈ d :: sl ∧ k < a.tmps.size => (List.mem_cons.1 h.1).elim (fun e => h3 e.symm) h2)]
    · rw [if_neg (fun h => h1 h.2)]
      by_cases h3 : d = k
      · subst h3
        simp [h1]
      · rw [if_neg h3, if_neg (fun h => h1 h.2)]
theorem act_ext {a b : Act} (h1 : ∀ k : Nat, a.tmps[k]? = b.tmps[k]?) (h2 : a.defers = b.defers) : a = b := by
  obtain ⟨t, d⟩ := a
  obtain ⟨t', d'⟩ := b
  have : t = t' := Array.ext_getElem? h1
  have e : d = d' := h2
  rw [this, e]
theorem putS_put (a : Act) (sl : List Nat) (s : Nat → Value) (d : Nat) (v : Value) (hd : d ∈ sl) : (putS a sl s).put (some d) v = putS a sl (updS s d v) := by
  refine act_ext (fun k => ?_) ?_
  · show ((putS a sl s).tmps.setIfInBounds d v)[k]? = _
    have hsz : ∀ k : Nat, k < (putS a sl s).tmps.size ↔ k < a.tmps.size := by
      intro k
      have := putS_get s sl a k
      constructor
      · intro h
        rw [Array.getElem?_eq_getElem h] at this
        by_cases hk : k < a.tmps.size
        · exact hk
        · rw [if_neg (fun h => hk h.2), Array.getElem?_eq_none (by omega)] at this
          cases this
      · intro h
        by_cases hk : k < (putS a sl s).tmps.size
        · exact hk
        · rw [Array.getElem?_eq_none (by omega)] at this
          split at this
          · cases this
          · rw [Array.getElem?_eq_getElem h] at this
            cases this
    rw [Array.getElem?_setIfInBounds, putS_get, putS_get]
    by_cases h3 : d = k
    · subst h3
      rw [if_pos rfl]
      by_cases h1 : d < a.tmps.size
      · rw [if_pos ((hsz d).2 h1), if_pos ⟨hd, h1⟩]
        simp [updS]
      · rw [if_neg (fun h => h1 ((hsz d).1 h)), if_neg (fun h => h1 h.2), Array.getElem?_eq_none (by omega)]
    · rw [if_neg h3]
      have : updS s d v k = s k := by unfold updS; rw [if_neg (fun e => h3 e.symm)]
      rw [this]
  · show (putS a sl s).defers = _
    rw [putS_defers, putS_defers]
theorem putS_self (a : Act) (sl : List Nat) : putS a sl (fun k => a.tmps.getD k undef) = a := by
  refine act_ext (fun k => ?_) (putS_defers _ _ _)
  rw [putS_get]
  split
  · rename_i h
    rw [Array.getElem?_eq_getElem h.2]
    simp [h.2]
  · rfl
theorem putS_upO (a : Act) (sl : List Nat) (s : Nat → Value) (N : Option Tmp) (v : Value) (hd : ∀ d, N = some d → d ∈ sl) : (putS a sl s).put N v = putS a sl (updO s N v) := by
  cases N with
  | none => rfl
  | some d => exact putS_put a sl s d v (hd d rfl)
section
variable {P : Program} {ops : Array Oper} {Q : Exit → Act → World → Prop} {md : Region.Mode} {S : World → Prop} {ds : List Nat}
/-- The table of what each operation waits for. -/
def ancB (md : Region.Mode) (ops : Array Oper) (tbl : List (List Nat)) : Bool :=
  (List.range ops.size).all fun i => (tbl.getD i []).all fun j => match ops[i]? with
    | some o => o.after.any fun e => Region.binds md e && (e.on == j || (decide (e.on < i) && (tbl.getD e.on []).contains j))
    | none => false
theorem ancB_step {tbl : List (List Nat)} (h : ancB md ops tbl = true) {i j : Nat} {o : Oper} (ho : ops[i]? = some o) (hj : j ∈ tbl.getD i []) : ∃ e ∈ o.after, Region.binds md e = true ∧ (e.on = j ∨ (e.on < i ∧ j ∈ tbl.getD e.on [])) := by
  have hlt : i < ops.size := (Array.getElem?_eq_some_iff.1 ho).1
  have h1 := List.all_eq_true.1 (List.all_eq_true.1 h i (List.mem_range.2 hlt)) j hj
  rw [ho] at h1
  obtain ⟨e, he, h2⟩ := Array.any_eq_true'.1 h1
  simp only [Bool.and_eq_true, Bool.or_eq_true, beq_iff_eq, decide_eq_true_eq, List.contains_iff_mem] at h2
  exact ⟨e, he, h2⟩
theorem anc_listed {tbl : List (List Nat)} (h : ancB md ops tbl = true) {l : Array Bool} (hc : ListedClosed md ops l) : ∀ (i : Nat), i < ops.size → l.getD i false = true → ∀ j ∈ tbl.getD i [], l.getD j false = true := by
  intro i
  induction i using Nat.strongRecOn with
  | ind i ih =>
    intro hi hl j hj
    obtain ⟨e, he, hb, h2⟩ := ancB_step h (Array.getElem?_eq_getElem hi) hj
    have h3 := hc i _ (Array.getElem?_eq_getElem hi) hl e he hb
    rcases h2 with rfl | ⟨h4, h5⟩
    · exact h3
    · exact ih e.on h4 (by omega) h3 j h5
theorem anc_ready {tbl : List (List Nat)} (h : ancB md ops tbl = true) {l : Array Bool} (hc : ListedClosed md ops l) {i : Nat} (hr : i ∈ Region.ready md ops l) : ∀ j ∈ tbl.getD i [], l.getD j false = true := by
  intro j hj
  obtain ⟨_, o, ho, hall⟩ := mem_ready.1 hr
  have hlt : i < ops.size := (Array.getElem?_eq_some_iff.1 ho).1
  obtain ⟨e, he, hb, h2⟩ := ancB_step h ho hj
  have h3 := hall e he hb
  rcases h2 with rfl | ⟨h4, h5⟩
  · exact h3
  · exact anc_listed h hc e.on (by omega) h3 j h5
/-- All that is asked of the lists, in one check. -/
def spanB (md : Region.Mode) (ops : Array Oper) (ds : List Nat) (l l' : Array Bool) (C : List Nat) (tbl : List (List Nat)) (sl : List Nat) (sj : List (List Nat)) : Bool :=
  ancB md ops tbl && Region.closedB md ops l && decide (l.size = ops.size) && decide (l'.size = ops.size) && decide C.Nodup &&
  ((List.range ops.size).all fun k => l'.getD k false == (l.getD k false || C.contains k)) &&
  (C.all fun c => decide (c < ops.size) && !l.getD c false && !ds.contains c &&
    (match ops[c]? with
     | some o => (o.after.all fun e => !Region.binds md e || l.getD e.on false || (C.contains e.on && decide (e.on < c))) && (match o.dst with | some d => sl.contains d && (C.all fun j => j == c || !(sj.getD j []).contains d || (tbl.getD j []).contains c) | none => true)
     | none => false)) &&
  ((List.range ops.size).all fun p => l.getD p false || C.contains p || C.all fun c => (tbl.getD p []).contains c)
theorem filter_less : ∀ (C : List Nat) (p : Nat → Bool) (i : Nat), C.Nodup → i ∈ C → p i = true → (C.filter fun c => p c && !(c == i)).length + 1 = (C.filter p).length
  | [], _, _, _, h, _ => by cases h
  | c :: C, p, i, hn, h, hp => by
    obtain ⟨hc, hn⟩ := List.nodup_cons.1 hn
    by_cases e : c = i
    · subst e
      have : (C.filter fun x => p x && !(x == c)) = C.filter p := by
        refine List.filter_congr fun x hx => ?_
        have : x ≠ c := fun e => hc (e ▸ hx)
        simp [this]
      rw [List.filter_cons_of_pos hp, List.filter_cons_of_neg (by simp), this]
      rfl
    · have h' : i ∈ C := by
        rcases List.mem_cons.1 h with h | h
        · exact absurd h.symm e
        · exact h
      have ih := filter_less C p i hn h' hp
      by_cases hpc : p c = true
      · rw [List.filter_cons_of_pos hpc, List.filter_cons_of_pos (by simp [hpc, e])]
        simp only [List.length_cons]
        omega
      · rw [List.filter_cons_of_neg hpc, List.filter_cons_of_neg (by simp [hpc])]
        exact ih
theorem getD_boolD {l : Array Bool} {i : Nat} (h : i < l.size) (b c : Bool) : l.getD i b = l.getD i c := by
  simp [h]
/-- The operations of F make memory; fd: where they put its address. -/
def freshB (ops : Array Oper) (C F : List Nat) (fd : Nat → Nat) : Bool :=
  F.all fun i => C.contains i && (match ops[i]? with | some o => o.dst == some (fd i) | none => false) && ((List.range ops.size).all fun j => j == i || !C.contains j || (match ops[j]? with | some o => !(o.dst == some (fd i)) | none => true))
/-- The block that a value leads into: a pointer's, a slice's, that of a struct's first field. -/
def blkV : Value → Option Nat
  | .pointer (some p) => some p.block
  | .agg vs => (vs.getD 0 undef).ownBlock
  | v => v.ownBlock
def NewPtr (v : Value) (w1 w2 : World) : Prop := ∀ g, blkV v = some g → w1.heap.size ≤ g ∧ g < w2.heap.size
def OldPtr (v : Value) (w : World) : Prop := ∀ g, blkV v = some g → g < w.heap.size
def apartV (u x : Value) : Prop := ∀ g, blkV u = some g → blkV x ≠ some g
/-- What one operation is to show: its value and its fact; the world has only grown, or each other fact that may hold by now is shown anew. -/
def SpanStep (P : Program) (ops : Array Oper) (Q : Exit → Act → World → Prop) (a : Act) (w : World) (C F : List Nat) (fd : Nat → Nat) (tbl off : List (List Nat)) (sl : List Nat) (sj : List (List Nat)) (J : Nat → List Value → World → Prop) (i : Nat) : Prop :=
  ∃ oi, ops[i]? = some oi ∧ ∀ (s : Nat → Value) (a1 : Act) (w1 : World), a1 = putS a sl s → Below w.heap.size w w1 → (∀ j ∈ tbl.getD i [], j ∈ C → ((off.getD j []).all fun k => k == i || (tbl.getD k []).contains i) = true → J j ((sj.getD j []).map s) w1) → (∀ j ∈ F, j ∈ tbl.getD i [] → OldPtr (s (fd j)) w1 ∧ ∀ k ∈ F, k ∈ tbl.getD i [] → j ≠ k → apartV (s (fd j)) (s (fd k))) →
    ∀ K : Act → World → Prop, Shut (∀ v w2, (Below w1.heap.size w1 w2 ∨ (Below w.heap.size w w2 ∧ w1.heap.size ≤ w2.heap.size ∧ ∀ j ∈ C, j ≠ i → i ∉ tbl.getD j [] → i ∉ off.getD j [] → J j ((sj.getD j []).map s) w1 → J j ((sj.getD j []).map s) w2)) → (i ∈ F → NewPtr v w1 w2) → J i ((sj.getD i []).map (updO s oi.dst v)) w2 → K (a1.put oi.dst v) w2) →
      if Region.wanted oi (yielded ops a1.tmps) = true then Oper.wp P oi a1 w1 K Q else K (a1.put oi.dst undef) w1
theorem spans_nil {p : Nat → Prop} : ∀ i ∈ ([] : List Nat), p i := fun _ h => by cases h
theorem spans_cons {a : Act} {w : World} {C F : List Nat} {fd : Nat → Nat} {tbl off : List (List Nat)} {sl : List Nat} {sj : List (List Nat)} {J : Nat → List Value → World → Prop} {i : Nat} {r : List Nat} {oi : Oper} (N : Option Tmp) (ho : ops[i]? = some oi) (hN : oi.dst = N)
    (h : ∀ (s : Nat → Value) (a1 : Act) (w1 : World), a1 = putS a sl s → Below w.heap.size w w1 → (∀ j ∈ tbl.getD i [], j ∈ C → ((off.getD j []).all fun k => k == i || (tbl.getD k []).contains i) = true → J j ((sj.getD j []).map s) w1) → (∀ j ∈ F, j ∈ tbl.getD i [] → OldPtr (s (fd j)) w1 ∧ ∀ k ∈ F, k ∈ tbl.getD i [] → j ≠ k → apartV (s (fd j)) (s (fd k))) →
      ∀ K : Act → World → Prop, Shut (∀ v w2, (Below w1.heap.size w1 w2 ∨ (Below w.heap.size w w2 ∧ w1.heap.size ≤ w2.heap.size ∧ ∀ j ∈ C, j ≠ i → i ∉ tbl.getD j [] → i ∉ off.getD j [] → J j ((sj.getD j []).map s) w1 → J j ((sj.getD j []).map s) w2)) → (i ∈ F → NewPtr v w1 w2) → J i ((sj.getD i []).map (updO s N v)) w2 → K (a1.put N v) w2) →
        if Region.wanted oi (yielded ops a1.tmps) = true then Oper.wp P oi a1 w1 K Q else K (a1.put N undef) w1)
    (hs : ∀ j ∈ r, SpanStep P ops Q a w C F fd tbl off sl sj J j) : ∀ j ∈ i :: r, SpanStep P ops Q a w C F fd tbl off sl sj J j := by
  subst hN
  intro j hj
  rcases List.mem_cons.1 hj with rfl | hj
  · exact ⟨oi, ho, h⟩
  · exact hs j hj
theorem pers_nil {p : Nat → Prop} : ∀ i ∈ ([] : List Nat), p i := fun _ h => by cases h
theorem pers_cons {p : Nat → Prop} {i : Nat} {r : List Nat} (h : p i) (hs : ∀ j ∈ r, p j) : ∀ j ∈ i :: r, p j := by
  intro j hj
  rcases List.mem_cons.1 hj with rfl | hj
  · exact h
  · exact hs j hj
theorem span_ {fuel fuel' : Nat} {l : Array Bool} {a : Act} {w : World} (l' : Array Bool) (C F : List Nat) (fd : Nat → Nat) (tbl off : List (List Nat)) (sl : List Nat) (sj : List (List Nat)) (J : Nat → List Value → World → Prop)
    (hf : fuel = fuel' + C.length) (hchk : spanB md ops ds l l' C tbl sl sj = true) (hfd : freshB ops C F fd = true)
    (hper : ∀ j ∈ C, ∀ vs w1 w2, Below w1.heap.size w1 w2 → J j vs w1 → J j vs w2)
    (hS : ∀ w1, Below w.heap.size w w1 → S w1)
    (hend : ∀ (s : Nat → Value) (w1 : World), Below w.heap.size w w1 → (∀ j ∈ C, off.getD j [] = [] → J j ((sj.getD j []).map s) w1) → (∀ i ∈ F, ∀ j ∈ F, i ≠ j → apartV (s (fd i)) (s (fd j))) → wpAnyLast P md ops Q S ds fuel' l' (putS a sl s) w1)
    (step : ∀ i ∈ C, SpanStep P ops Q a w C F fd tbl off sl sj J i) : wpAnyLast P md ops Q S ds fuel l a w := by
  subst hf
  unfold spanB at hchk
  simp only [Bool.and_eq_true, decide_eq_true_eq] at hchk
  obtain ⟨⟨⟨⟨⟨⟨⟨hanc, hcl⟩, hls⟩, hls'⟩, hnd⟩, hl'⟩, hC⟩, hrest⟩ := hchk
  have hl' : ∀ k, k < ops.size → l'.getD k false = (l.getD k false || C.contains k) := fun k hk => by
    have := List.all_eq_true.1 hl' k (List.mem_range.2 hk)
    simpa using this
  have hC1 : ∀ c ∈ C, c < ops.size ∧ l.getD c false = false ∧ c ∉ ds ∧ ∃ o, ops[c]? = some o ∧ (∀ e ∈ o.after, Region.binds md e = true → l.getD e.on false = true ∨ (e.on ∈ C ∧ e.on < c)) ∧ ∀ d, o.dst = some d → d ∈ sl ∧ ∀ j ∈ C, j ≠ c → d ∈ sj.getD j [] → c ∈ tbl.getD j [] := by
    intro c hc
    have h := List.all_eq_true.1 hC c hc
    simp only [Bool.and_eq_true, decide_eq_true_eq, Bool.not_eq_true', List.contains_eq_mem, decide_eq_false_iff_not] at h
    obtain ⟨⟨⟨h1, h2⟩, h3⟩, h4⟩ := h
    refine ⟨h1, h2, h3, ?_⟩
    cases ho : ops[c]? with
    | none => rw [ho] at h4; cases h4
    | some o =>
      rw [ho] at h4
      simp only [Bool.and_eq_true] at h4
      refine ⟨o, rfl, fun e he hb => ?_, fun d hd => ?_⟩
      · have h5 := Array.all_eq_true_iff_forall_mem.1 h4.1 e he
        simp only [hb, Bool.not_true, Bool.false_or, Bool.or_eq_true, Bool.and_eq_true, decide_eq_true_eq] at h5
        exact h5
      · have h5 := h4.2
        rw [hd] at h5
        simp only [Bool.and_eq_true, decide_eq_true_eq] at h5
        refine ⟨h5.1, fun j hj hne hm => ?_⟩
        have h6 := List.all_eq_true.1 h5.2 j hj
        simp only [Bool.or_eq_true, beq_iff_eq, Bool.not_eq_true', decide_eq_false_iff_not, decide_eq_true_eq] at h6
        rcases h6 with (h6 | h6) | h6
        · exact absurd h6 hne
        · exact absurd hm h6
        · exact h6
  have hrest : ∀ p, p < ops.size → l.getD p false = true ∨ p ∈ C ∨ ∀ c ∈ C, c ∈ tbl.getD p [] := by
    intro p hp
    have h := List.all_eq_true.1 hrest p (List.mem_range.2 hp)
    simp only [Bool.or_eq_true, List.contains_iff_mem, List.all_eq_true] at h
    rcases h with (h | h) | h
    · exact Or.inl h
    · exact Or.inr (Or.inl h)
    · exact Or.inr (Or.inr h)
  have hFC : ∀ i ∈ F, i ∈ C ∧ (∃ o, ops[i]? = some o ∧ o.dst = some (fd i)) ∧ ∀ j o, j ≠ i → j ∈ C → ops[j]? = some o → o.dst ≠ some (fd i) := by
    intro i hi
    have h := List.all_eq_true.1 hfd i hi
    simp only [Bool.and_eq_true, List.contains_iff_mem] at h
    obtain ⟨⟨h1, h2⟩, h3⟩ := h
    refine ⟨h1, ?_, fun j o hne hjC ho hd => ?_⟩
    · cases ho : ops[i]? with
      | none => rw [ho] at h2; cases h2
      | some o =>
        rw [ho] at h2
        exact ⟨o, rfl, by simpa using h2⟩
    · have h4 := List.all_eq_true.1 h3 j (List.mem_range.2 (Array.getElem?_eq_some_iff.1 ho).1)
      simp [ho, hd, hne, hjC] at h4
  -- from each place of open order on
  have main : ∀ (m : Nat) (l1 : Array Bool) (s : Nat → Value) (w1 : World), l1.size = ops.size → ListedClosed md ops l1 → (∀ k, k ∉ C → l1.getD k false = l.getD k false) → (C.filter fun c => !l1.getD c false).length = m →
      Below w.heap.size w w1 → (∀ j ∈ C, l1.getD j false = true → (∀ k ∈ off.getD j [], l1.getD k false = false) → J j ((sj.getD j []).map s) w1) → (∀ i ∈ F, l1.getD i false = true → OldPtr (s (fd i)) w1 ∧ ∀ j ∈ F, l1.getD j false = true → i ≠ j → apartV (s (fd i)) (s (fd j))) → wpAnyLast P md ops Q S ds (fuel' + m) l1 (putS a sl s) w1 := by
    intro m
    induction m with
    | zero =>
      intro l1 s w1 hsz hcl1 hout hm hB hF hN
      have hall : ∀ c ∈ C, l1.getD c false = true := fun c hc => by
        have h := List.eq_nil_of_length_eq_zero hm
        have h2 : c ∉ C.filter fun c => !l1.getD c false := by rw [h]; simp
        simp only [List.mem_filter, not_and, Bool.not_eq_true', Bool.not_eq_false] at h2
        exact h2 hc
      have e : l1 = l' := by
        refine Array.ext (by omega) fun k h1 h2 => ?_
        have h3 := hl' k (by omega)
        by_cases hk : k ∈ C
        · have h4 := hall k hk
          simp [hk, h1, h2] at h3 h4
          rw [h3, h4]
        · have h4 := hout k hk
          simp only [List.contains_eq_mem, hk, decide_false, Bool.or_false] at h3
          rw [← h3] at h4
          simpa [h1, h2] using h4
      subst e
      exact hend s w1 hB (fun j hj ho => hF j hj (hall j hj) (by rw [ho]; intro k hk; cases hk)) fun i hi j hj hne => (hN i hi (hall i (hFC i hi).1)).2 j hj (hall j (hFC j hj).1) hne
    | succ m ih =>
      intro l1 s w1 hsz hcl1 hout hm hB hF hN
      have hne : ∃ c ∈ C, l1.getD c false = false := by
        obtain ⟨x, xs, hx⟩ := List.exists_cons_of_length_eq_add_one hm
        have : x ∈ C.filter fun c => !l1.getD c false := by rw [hx]; exact List.mem_cons_self ..
        obtain ⟨h1, h2⟩ := List.mem_filter.1 this
        exact ⟨x, h1, by simpa using h2⟩
      have hsome : ∀ c, c ∈ C → l1.getD c false = false → Region.ready md ops l1 ≠ [] := by
        intro c
        induction c using Nat.strongRecOn with
        | ind c ihc =>
          intro hc hun
          obtain ⟨h1, h2, h3, o, ho, h4, h5⟩ := hC1 c hc
          by_cases hex : ∃ e ∈ o.after, Region.binds md e = true ∧ l1.getD e.on false = false
          · obtain ⟨e, he, hb, hu⟩ := hex
            rcases h4 e he hb with h6 | ⟨h6, h7⟩
            · by_cases hk : e.on ∈ C
              · have := (hC1 e.on hk).2.1
                rw [h6] at this
                cases this
              · rw [hout _ hk, h6] at hu
                cases hu
            · exact ihc e.on h7 h6 hu
          · have : c ∈ Region.ready md ops l1 := mem_ready.2 ⟨by rw [getD_boolD (by omega) true false]; exact hun, o, ho, fun e he hb => by
              cases hq : l1.getD e.on false with
              | true => rfl
              | false => exact absurd ⟨e, he, hb, hq⟩ hex⟩
            intro h0
            rw [h0] at this
            cases this
      refine ⟨fun h0 => ?_, fun i hi => ?_⟩
      · obtain ⟨c, hc, hu⟩ := hne
        exact absurd h0 (hsome c hc hu)
      · have hir := hi
        obtain ⟨hiun, oi', hoi', hall⟩ := mem_ready.1 hi
        have hlt : i < ops.size := (Array.getElem?_eq_some_iff.1 hoi').1
        have hiC : i ∈ C := by
          rcases hrest i hlt with h | h | h
          · by_cases hk : i ∈ C
            · exact hk
            · have h6 := hout i hk
              rw [h, getD_boolD (by omega) false true, hiun] at h6
              cases h6
          · exact h
          · obtain ⟨c, hc, hu⟩ := hne
            have := anc_ready hanc hcl1 hir c (h c hc)
            rw [this] at hu
            cases hu
        obtain ⟨oi, hoi, hst⟩ := step i hiC
        obtain rfl : oi' = oi := Option.some.inj (hoi'.symm.trans hoi)
        obtain ⟨h1, h2, h3, o, ho, h4, h5⟩ := hC1 i hiC
        obtain rfl : oi' = o := Option.some.inj (hoi'.symm.trans ho)
        refine wpOp_step hoi fun K hK => hst s _ w1 rfl hB (fun j hj hjC hoff => hF j hjC (anc_ready hanc hcl1 hir j hj) fun k hk => ?_) (fun j hj hjt => ⟨(hN j hj (anc_ready hanc hcl1 hir j hjt)).1, fun k hk hkt hne => (hN j hj (anc_ready hanc hcl1 hir j hjt)).2 k hk (anc_ready hanc hcl1 hir k hkt) hne⟩) K fun v w2 hmv hnew hJ => hK _ _ ?_
        · have h5 := List.all_eq_true.1 hoff k hk
          simp only [Bool.or_eq_true, beq_iff_eq, List.contains_iff_mem] at h5
          rcases h5 with rfl | h5
          · rw [getD_boolD (by omega) false true]; exact hiun
          · cases hl : l1.getD k false with
            | false => rfl
            | true =>
              have hks : k < ops.size := by
                rcases Nat.lt_or_ge k ops.size with h | h
                · exact h
                · rw [Array.getD_eq_getD_getElem?, Array.getElem?_eq_none (by omega)] at hl
                  cases hl
              have := anc_listed hanc hcl1 k hks hl i h5
              rw [getD_boolD (by omega) false true, hiun] at this
              cases this
        have hB2 : Below w.heap.size w w2 := by
          rcases hmv with hb | hb
          · exact below_step hB hb
          · exact hb.1
        have hsz2 : w1.heap.size ≤ w2.heap.size := by
          rcases hmv with hb | hb
          · exact hb.size
          · exact hb.2.1
        have hkeep : ∀ j ∈ C, j ≠ i → l1.getD j false = true → i ∉ off.getD j [] → J j ((sj.getD j []).map s) w1 → J j ((sj.getD j []).map s) w2 := fun j hj hne hl hoff h => by
          rcases hmv with hb | hb
          · exact hper j hj _ _ _ hb h
          · refine hb.2.2 j hj hne (fun hm => ?_) hoff h
            have := anc_listed hanc hcl1 j (hC1 j hj).1 hl i hm
            rw [getD_boolD (by omega) false true, hiun] at this
            cases this
        refine ⟨fun _ _ => hS w2 hB2, ?_⟩
        rw [putS_upO a sl s oi'.dst v (fun d hd => (h5 d hd).1)]
        refine ih _ _ w2 (by rw [Array.size_setIfInBounds]; exact hsz) (hcl1.set hir) (fun k hk => ?_) ?_ hB2 (fun j hj hjl hoff => ?_) fun j hj hjl => ?_
        · rw [getD_set_ne false (fun e => hk (by rw [← e]; exact hiC))]
          exact hout k hk
        · have h7 := filter_less C (fun c => !l1.getD c false) i hnd hiC (by rw [getD_boolD (by omega) false true, hiun]; rfl)
          rw [hm] at h7
          rw [← Nat.succ.inj h7]
          congr 1
          refine List.filter_congr fun c hc => ?_
          by_cases e : c = i
          · subst e
            have : (l1.setIfInBounds c true).getD c false = true := by
              have : c < l1.size := by omega
              simp [this]
            rw [this]
            simp
          · rw [getD_set_ne false (fun x => e x.symm)]
            simp [e]
        · by_cases e : j = i
          · subst e
            exact hJ
          · rw [getD_set_ne false (fun x => e x.symm)] at hjl
            have hio : i ∉ off.getD j [] := fun hm => by
              have h0 := hoff i hm
              have h00 : i < l1.size := by omega
              simp [h00] at h0
            have h8 := hkeep j hj e hjl hio (hF j hj hjl fun k hk => by
              have h9 := hoff k hk
              rw [getD_set_ne false (fun x => hio (by rw [x]; exact hk))] at h9
              exact h9)
            have h9 : (sj.getD j []).map (updO s oi'.dst v) = (sj.getD j []).map s := by
              refine List.map_congr_left fun k hk => ?_
              cases hd : oi'.dst with
              | none => rfl
              | some d =>
                show updS s d v k = s k
                unfold updS
                rw [if_neg]
                intro e2
                subst e2
                have := anc_listed hanc hcl1 j (hC1 j hj).1 hjl i ((h5 _ hd).2 j hj e hk)
                rw [getD_boolD (by omega) false true, hiun] at this
                cases this
            rw [h9]
            exact h8
        · -- the blocks that are new
          have keep : ∀ k ∈ F, k ≠ i → updO s oi'.dst v (fd k) = s (fd k) := fun k hk hne => by
            cases hd : oi'.dst with
            | none => rfl
            | some d =>
              show updS s d v (fd k) = s (fd k)
              unfold updS
              rw [if_neg]
              intro e2
              exact (hFC k hk).2.2 i oi' hne.symm hiC hoi (by rw [hd, e2])
          have old : ∀ k ∈ F, k ≠ i → (l1.setIfInBounds i true).getD k false = true → OldPtr (s (fd k)) w1 := fun k hk hne hl => by
            rw [getD_set_ne false (fun x => hne x.symm)] at hl
            exact (hN k hk hl).1
          have apart1 : ∀ {u x : Value}, NewPtr u w1 w2 → OldPtr x w1 → apartV u x ∧ apartV x u := fun hn ho =>
            ⟨fun g hu hx => by have := hn g hu; have := ho g hx; omega, fun g hx hu => by have := hn g hu; have := ho g hx; omega⟩
          have newI : i ∈ F → NewPtr (updO s oi'.dst v (fd i)) w1 w2 := fun hiF => by
            obtain ⟨_, ⟨o2, ho2, hd2⟩, _⟩ := hFC i hiF
            obtain rfl : oi' = o2 := Option.some.inj (hoi.symm.trans ho2)
            rw [hd2]
            show NewPtr (updS s (fd i) v (fd i)) w1 w2
            unfold updS
            rw [if_pos rfl]
            exact hnew hiF
          by_cases e : j = i
          · subst e
            refine ⟨fun g hg => ((newI hj) g hg).2, fun k hk hkl hne => ?_⟩
            rw [keep k hk hne.symm]
            exact (apart1 (newI hj) (old k hk hne.symm hkl)).1
          · rw [keep j hj e]
            refine ⟨fun g hg => Nat.lt_of_lt_of_le (old j hj e hjl g hg) hsz2, fun k hk hkl hne => ?_⟩
            by_cases e2 : k = i
            · subst e2
              exact (apart1 (newI hk) (old j hj e hjl)).2
            · rw [keep k hk e2]
              rw [getD_set_ne false (fun x => e x.symm)] at hjl
              rw [getD_set_ne false (fun x => e2 x.symm)] at hkl
              exact (hN j hj hjl).2 k hk hkl hne
  have h0 := main C.length l (fun k => a.tmps.getD k undef) w hls (Region.closedB_spec hcl) (fun _ _ => rfl) (by
    congr 1
    exact List.filter_eq_self.2 fun c hc => by simp [(hC1 c hc).2.1]) (Below.refl _ _) (fun j hj hl _ => by rw [(hC1 j hj).2.1] at hl; cases hl) (fun j hj hl => by rw [(hC1 j (hFC j hj).1).2.1] at hl; cases hl)
  rw [putS_self] at h0
  exact h0
/-- A letter for the world, behind an operation. -/
theorem last_gen {fuel : Nat} {l : Array Bool} {a : Act} {W : World} (I : World → Prop) (h : I W) (k : ∀ W', I W' → wpAnyLast P md ops Q S ds fuel l a W') : wpAnyLast P md ops Q S ds fuel l a W := k W h
end
theorem exit_gen {Q : Exit → Act → World → Prop} {e : Exit} {a : Act} {W : World} (I : World → Prop) (h : I W) (k : ∀ W', I W' → Q e a W') : Q e a W := k W h
theorem code_gen {P : Program} {c : Code} {Q : Exit → Act → World → Prop} {a : Act} {W : World} (I : World → Prop) (h : I W) (k : ∀ W', I W' → c.wp P Q a W') : c.wp P Q a W := k W h
theorem new_pointer {w1 w2 : World} {g : Nat} (h : w1.heap.size ≤ g) (h2 : g < w2.heap.size) : NewPtr (.pointer (some ⟨g, 0, none⟩)) w1 w2 := fun k hk => by
  have : g = k := Option.some.inj hk
  omega
theorem new_row {α : Type} {d : Kd α} {e : Nat} {ok : Nat → Prop} {w1 w2 : World} {v : Value} {xs : List α} (h : d.R e w2 w1.heap.size ok v xs) : ∀ g, v.ownBlock = some g → w1.heap.size ≤ g ∧ g < w2.heap.size := fun g hg => ⟨((Kd.R_bound h).1 g hg).2.1, ((Kd.R_bound h).1 g hg).2.2.1⟩
theorem own_r {w : World} {base e : Nat} {v : Value} {xs : List Int} {k : IntKind} {ok : Nat → Prop} (h : (Kd.int k).R e w base ok v xs) (ok' : Nat → Prop) (hok : ∀ g, v.ownBlock = some g → ok' g) : (Kd.int k).R e w base ok' v xs := Kd.R_of_own (Kd.own_of_R h) hok
/-- A row stays where another one is written. -/
theorem own_grown {w w1 : World} {base e : Nat} {v : Value} {xs : List Int} {k : IntKind} {ok : Nat → Prop} {row : Option Nat} (h : (Kd.int k).R e w base ok v xs) (hg : w.grownBy w1 row) (hne : ∀ g, v.ownBlock = some g → some g ≠ row) : (Kd.int k).R e w1 base ok v xs :=
  own_r (Kd.R_grown (own_r h (fun g => v.ownBlock = some g) (fun _ h => h)) hg hne) ok h.1

end Go.Proofs.Ytdpekjffjobabaa.PAll
