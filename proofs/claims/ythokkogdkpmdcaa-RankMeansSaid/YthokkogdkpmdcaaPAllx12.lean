/- The Go functions that the laws reach, as Lean functions, and that each call comes to what its function says. Written by a program of this session (a turned copy of the kit's print). No condition beyond those that each theorem states. -/
import Derived.Test.YthokkogdkpmdcaaPAllx0
import Derived.Test.YthokkogdkpmdcaaPAllx8
namespace Go.Proofs.Ythokkogdkpmdcaa.PAll
open Go.RowKit Go.Proofs.YthokkogdkpmdcaaW.PrintWords Go.Proofs.YthokkogdkpmdcaaW.PrintLast Go.Proofs.YthokkogdkpmdcaaW.PrintMore
attribute [local go_sem] max2_int min2_int max_two min_two max_three min_three max_four min_four   -- for this text's walks alone
set_option linter.unusedVariables false
set_option linter.unusedSimpArgs false

/-! ### offertoryref09_Big_Wide: function 23 -/
theorem or_low {x y : Int} (h0 : 0 ≤ x) (h1 : x < 281474976710656) (h2 : 0 ≤ y) (h3 : y ≤ 65535) : bits .or .u64 (x * 65536) y = x * 65536 + y := by
  obtain ⟨n, rfl⟩ := Int.eq_ofNat_of_zero_le h0
  obtain ⟨m, rfl⟩ := Int.eq_ofNat_of_zero_le h2
  have h := bits_or_u64_nat (n * 65536) m (by omega) (by omega)
  rw [show ((n * 65536 : Nat) : Int) = (n : Int) * 65536 by omega] at h
  rw [h, show n * 65536 = n <<< 16 by rw [Nat.shiftLeft_eq], ← Nat.shiftLeft_add_eq_or_of_lt (by omega), Nat.shiftLeft_eq]
  omega
theorem or_zero {y : Int} (h2 : 0 ≤ y) (h3 : y ≤ 65535) : bits .or .u64 0 y = y := by
  have := or_low (x := 0) (by omega) (by omega) h2 h3
  simpa using this
def offertoryref09_Big_Wide.f (a0_0 a0_1 a0_2 a0_3 a0_4 a0_5 a0_6 a0_7 : Int) : Option (Int × Int) :=
  if Dig a0_0 a0_1 a0_2 a0_3 a0_4 a0_5 a0_6 a0_7 then some (((a0_7 * 65536 + a0_6) * 65536 + a0_5) * 65536 + a0_4, ((a0_3 * 65536 + a0_2) * 65536 + a0_1) * 65536 + a0_0) else none
set_option maxHeartbeats 1600000 in
set_option maxRecDepth 100000 in
theorem offertoryref09_Big_Wide.calls (a0_0 a0_1 a0_2 a0_3 a0_4 a0_5 a0_6 a0_7 r1 r2 : Int) (w : World) (h : offertoryref09_Big_Wide.f a0_0 a0_1 a0_2 a0_3 a0_4 a0_5 a0_6 a0_7 = some (r1, r2)) :
    Calls Try.prog 23 #[.agg #[.int .u32 a0_0, .int .u32 a0_1, .int .u32 a0_2, .int .u32 a0_3, .int .u32 a0_4, .int .u32 a0_5, .int .u32 a0_6, .int .u32 a0_7]] w fun e w' => e = .returned (.agg #[.int .u64 r1, .int .u64 r2]) ∧ Below w.heap.size w w' := by
  unfold offertoryref09_Big_Wide.f at h
  split at h
  case isFalse => cases h
  rename_i hr
  simp only [Option.some.injEq, Prod.mk.injEq] at h
  obtain ⟨rfl, rfl⟩ := h
  unfold Dig at hr
  obtain ⟨⟨l0, m0⟩, ⟨l1, m1⟩, ⟨l2, m2⟩, ⟨l3, m3⟩, ⟨l4, m4⟩, ⟨l5, m5⟩, ⟨l6, m6⟩, ⟨l7, m7⟩⟩ := hr
  have hu29 := Try.underlying41
  have hu25 := Try.underlying34
  have o3 := or_zero l3 m3
  have o2 := or_low (x := a0_3) (y := a0_2) (by omega) (by omega) (by omega) (by omega)
  have o1 := or_low (x := a0_3 * 65536 + a0_2) (y := a0_1) (by omega) (by omega) (by omega) (by omega)
  have o0 := or_low (x := (a0_3 * 65536 + a0_2) * 65536 + a0_1) (y := a0_0) (by omega) (by omega) (by omega) (by omega)
  have o7 := or_zero l7 m7
  have o6 := or_low (x := a0_7) (y := a0_6) (by omega) (by omega) (by omega) (by omega)
  have o5 := or_low (x := a0_7 * 65536 + a0_6) (y := a0_5) (by omega) (by omega) (by omega) (by omega)
  have o4 := or_low (x := (a0_7 * 65536 + a0_6) * 65536 + a0_5) (y := a0_4) (by omega) (by omega) (by omega) (by omega)
  go_enter Try.func23, Try.ntmps23
  go_wp2
  refine wp_loop_rounds 5 ?_
  rw [rounds_succ]
  go_wp2
  go_region
  go_wp2
  go_region
  go_wp2
  rw [rounds_succ]
  go_wp2
  go_region
  go_wp2
  go_region
  go_wp2
  rw [rounds_succ]
  go_wp2
  go_region
  go_wp2
  go_region
  go_wp2
  rw [rounds_succ]
  go_wp2
  go_region
  go_wp2
  go_region
  go_wp2
  rw [rounds_succ]
  go_wp2
  refine bodyPost_ret (v := .agg #[.int .u64 (((a0_7 * 65536 + a0_6) * 65536 + a0_5) * 65536 + a0_4), .int .u64 (((a0_3 * 65536 + a0_2) * 65536 + a0_1) * 65536 + a0_0)]) (by simp [results, Try.results23, go_sem]) rfl ⟨rfl, ?_⟩
  repeat (first | (with_reducible exact Below.refl _ _) | apply below_alloc | apply below_drew)


end Go.Proofs.Ythokkogdkpmdcaa.PAll
