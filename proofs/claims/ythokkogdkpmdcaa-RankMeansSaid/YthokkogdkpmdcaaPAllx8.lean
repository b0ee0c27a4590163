/- The Go functions that the laws reach, as Lean functions, and that each call comes to what its function says. Written by a program of this session (a turned copy of the kit's print). No condition beyond those that each theorem states. -/
import Derived.Test.YthokkogdkpmdcaaPAllx0
namespace Go.Proofs.Ythokkogdkpmdcaa.PAll
open Go.RowKit Go.Proofs.YthokkogdkpmdcaaW.PrintWords Go.Proofs.YthokkogdkpmdcaaW.PrintLast Go.Proofs.YthokkogdkpmdcaaW.PrintMore
attribute [local go_sem] max2_int min2_int max_two min_two max_three min_three max_four min_four   -- for this text's walks alone
set_option linter.unusedVariables false
set_option linter.unusedSimpArgs false

/-- A block that holds a small array. -/
def ArrAt (w : World) (g t : Nat) (k : IntKind) (l : List Int) : Prop := w.heap[g]? = some (.cells (nums k l).toArray t (0, 0))
theorem ArrAt.get {w : World} {g t : Nat} {k : IntKind} {l : List Int} (h : ArrAt w g t k l) (i : Nat) (hi : i < l.length) : w.cell? ⟨g, i, none⟩ = some (.int k (rd l i)) := by
  rw [blk_cell h i]
  simp [nums, rd, List.getD, List.getElem?_eq_getElem hi]
theorem ArrAt.frz {w : World} {g t : Nat} {k : IntKind} {l : List Int} (h : ArrAt w g t k l) (i : Nat) : w.frozen? ⟨g, i, none⟩ = false := blk_frozen h i
theorem ArrAt.put {w : World} {g t : Nat} {k : IntKind} {l : List Int} (h : ArrAt w g t k l) (i : Nat) (u : Int) : ArrAt (w.setCell ⟨g, i, none⟩ (.int k u)) g t k (l.set i u) := by
  refine blk_put h i _ ?_
  simp [nums, List.map_set]
theorem ArrAt.far {w : World} {g t g' j : Nat} {k : IntKind} {l : List Int} {u : Value} (h : ArrAt w g t k l) (hn : g ≠ g') : ArrAt (w.setCell ⟨g', j, none⟩ u) g t k l := blk_far h hn u
theorem ArrAt.drew {w : World} {g t : Nat} {k : IntKind} {l : List Int} (h : ArrAt w g t k l) (n : Nat) : ArrAt (w.drewN n) g t k l := blk_drewN h n
theorem ArrAt.alloc {w : World} {g t : Nat} {k : IntKind} {l : List Int} (h : ArrAt w g t k l) (o : Obj) : ArrAt (w.alloc o) g t k l := blk_alloc h o
theorem ArrAt.below {w w1 : World} {g t : Nat} {k : IntKind} {l : List Int} (h : ArrAt w g t k l) (hb : Below w.heap.size w w1) : ArrAt w1 g t k l := (hb.block g (blk_lt h)).trans h
theorem list8 : ∀ {l : List Int}, l.length = 8 → [rd l 0, rd l 1, rd l 2, rd l 3, rd l 4, rd l 5, rd l 6, rd l 7] = l
  | [a, b, c, d, e, f, g, h], _ => rfl
theorem set8 : ∀ {l : List Int}, l.length = 8 → ∀ a b c d e f g h : Int, (((((((l.set 0 a).set 1 b).set 2 c).set 3 d).set 4 e).set 5 f).set 6 g).set 7 h = [a, b, c, d, e, f, g, h]
  | [_, _, _, _, _, _, _, _], _, _, _, _, _, _, _, _, _ => rfl
theorem nums_size (k : IntKind) (l : List Int) : (nums k l).toArray.size = l.length := by simp [nums]
theorem ArrAt.put8 {w : World} {g t : Nat} {k : IntKind} {l : List Int} (h : ArrAt w g t k l) (S : List Int) (hS : S.length = 8) (hl : l.length = 8) :
    ArrAt ((((((((w.setCell ⟨g, 0, none⟩ (.int k (rd S 0))).setCell ⟨g, 1, none⟩ (.int k (rd S 1))).setCell ⟨g, 2, none⟩ (.int k (rd S 2))).setCell ⟨g, 3, none⟩ (.int k (rd S 3))).setCell ⟨g, 4, none⟩ (.int k (rd S 4))).setCell ⟨g, 5, none⟩ (.int k (rd S 5))).setCell ⟨g, 6, none⟩ (.int k (rd S 6))).setCell ⟨g, 7, none⟩ (.int k (rd S 7))) g t k S := by
  have h8 := (((((((h.put 0 (rd S 0)).put 1 (rd S 1)).put 2 (rd S 2)).put 3 (rd S 3)).put 4 (rd S 4)).put 5 (rd S 5)).put 6 (rd S 6)).put 7 (rd S 7)
  rw [set8 hl, list8 hS] at h8
  exact h8
theorem alloc_size (w : World) (o : Obj) : (w.alloc o).heap.size = w.heap.size + 1 := by show (w.heap.push o).size = _; simp
def Small (l : List Int) : Prop := l.length = 8 ∧ ∀ j : Nat, 0 ≤ rd l j ∧ rd l j ≤ 65535
def Dig (a0 a1 a2 a3 a4 a5 a6 a7 : Int) : Prop := (0 ≤ a0 ∧ a0 ≤ 65535) ∧ (0 ≤ a1 ∧ a1 ≤ 65535) ∧ (0 ≤ a2 ∧ a2 ≤ 65535) ∧ (0 ≤ a3 ∧ a3 ≤ 65535) ∧ (0 ≤ a4 ∧ a4 ≤ 65535) ∧ (0 ≤ a5 ∧ a5 ≤ 65535) ∧ (0 ≤ a6 ∧ a6 ≤ 65535) ∧ (0 ≤ a7 ∧ a7 ≤ 65535)
instance (a0 a1 a2 a3 a4 a5 a6 a7 : Int) : Decidable (Dig a0 a1 a2 a3 a4 a5 a6 a7) := by unfold Dig; infer_instance
theorem Dig.small {a0 a1 a2 a3 a4 a5 a6 a7 : Int} (h : Dig a0 a1 a2 a3 a4 a5 a6 a7) : Small [a0, a1, a2, a3, a4, a5, a6, a7] := by
  refine ⟨rfl, fun j => ?_⟩
  obtain ⟨h0, h1, h2, h3, h4, h5, h6, h7⟩ := h
  match j with
  | 0 => exact h0
  | 1 => exact h1
  | 2 => exact h2
  | 3 => exact h3
  | 4 => exact h4
  | 5 => exact h5
  | 6 => exact h6
  | 7 => exact h7
  | j + 8 =>
    have : rd [a0, a1, a2, a3, a4, a5, a6, a7] ((j + 8 : Nat) : Int) = 0 := by
      unfold rd
      rw [show ((j + 8 : Nat) : Int).toNat = j + 8 from rfl]
      rfl
    omega
/-- The number of eight digits; a number's digits. -/
def bigV (a0 a1 a2 a3 a4 a5 a6 a7 : Int) : Int := a0 + a1 * 65536 + a2 * 4294967296 + a3 * 281474976710656 + a4 * 18446744073709551616 + a5 * 1208925819614629174706176 + a6 * 79228162514264337593543950336 + a7 * 5192296858534827628530496329220096
def bigD (v : Int) (i : Nat) : Int := v / 65536 ^ i % 65536
def digs (v : Int) : Int × Int × Int × Int × Int × Int × Int × Int := (bigD v 0, bigD v 1, bigD v 2, bigD v 3, bigD v 4, bigD v 5, bigD v 6, bigD v 7)
theorem rounds_gen {P : Program} {c : Code} {Q : Exit → Act → World → Prop} {n : Nat} {a : Act} {W : World} (I : World → Prop) (h : I W) (k : ∀ W', I W' → Code.rounds P c Q n a W') : Code.rounds P c Q n a W := k W h
theorem and_65535 {x : Int} (h0 : 0 ≤ x) (h1 : x ≤ 18446744073709551615) : bits .and .u64 x 65535 = x % 65536 := by
  obtain ⟨n, rfl⟩ := Int.eq_ofNat_of_zero_le h0
  have := bits_and_u64_nat n 65535 (by omega) (by decide)
  rw [show ((65535 : Nat) : Int) = 65535 from rfl] at this
  rw [this, Nat.and_two_pow_sub_one_eq_mod n 16]
  rfl
theorem nums8 {k : IntKind} {l : List Int} (h : l.length = 8) : (#[Value.int k (rd l 0), Value.int k (rd l 1), Value.int k (rd l 2), Value.int k (rd l 3), Value.int k (rd l 4), Value.int k (rd l 5), Value.int k (rd l 6), Value.int k (rd l 7)] : Array Value) = (nums k l).toArray :=
  congrArg (fun z => (nums k z).toArray) (list8 h)

/-! ### offertoryref09_Of: function 12 -/
def offertoryref09_Of.f (a0_0 a0_1 : Int) : Option (Int × Int × Int × Int × Int × Int × Int × Int) :=
  if (0 ≤ a0_0 ∧ a0_0 ≤ 18446744073709551615) ∧ (0 ≤ a0_1 ∧ a0_1 ≤ 18446744073709551615) then some (digs (a0_1 + a0_0 * 18446744073709551616)) else none
set_option maxHeartbeats 800000 in
set_option maxRecDepth 100000 in
theorem offertoryref09_Of.calls (a0_0 a0_1 r1 r2 r3 r4 r5 r6 r7 r8 : Int) (w : World) (h : offertoryref09_Of.f a0_0 a0_1 = some (r1, r2, r3, r4, r5, r6, r7, r8)) :
    Calls Try.prog 12 #[.agg #[.int .u64 a0_0, .int .u64 a0_1]] w fun e w' => e = .returned (.agg #[.int .u32 r1, .int .u32 r2, .int .u32 r3, .int .u32 r4, .int .u32 r5, .int .u32 r6, .int .u32 r7, .int .u32 r8]) ∧ Below w.heap.size w w' := by
  unfold offertoryref09_Of.f at h
  split at h
  case isFalse => cases h
  rename_i hr
  have H := Aside0.mk h
  clear h
  obtain ⟨⟨h0, h1⟩, l0, l1⟩ := hr
  have hu29 := Try.underlying41
  have hu25 := Try.underlying34
  go_enter Try.func12, Try.ntmps12
  go_wp2
  refine wp_loop_rounds 5 ?_
  rw [rounds_succ]
  go_wp2
  rw [rounds_succ]
  go_wp2
  rw [rounds_succ]
  go_wp2
  rw [rounds_succ]
  go_wp2
  rw [rounds_succ]
  go_wp2
  refine bodyPost_ret (v := .agg #[.int .u32 (bits .and .u64 a0_1 65535 % 4294967296), .int .u32 (bits .and .u64 (a0_1 / 65536) 65535 % 4294967296), .int .u32 (bits .and .u64 (a0_1 / 4294967296) 65535 % 4294967296), .int .u32 (bits .and .u64 (a0_1 / 281474976710656) 65535 % 4294967296), .int .u32 (bits .and .u64 a0_0 65535 % 4294967296), .int .u32 (bits .and .u64 (a0_0 / 65536) 65535 % 4294967296), .int .u32 (bits .and .u64 (a0_0 / 4294967296) 65535 % 4294967296), .int .u32 (bits .and .u64 (a0_0 / 281474976710656) 65535 % 4294967296)]) (by simp [results, Try.results12, go_sem]) rfl ⟨?_, ?_⟩
  · have h := H.out
    simp only [Option.some.injEq, digs, Prod.mk.injEq] at h
    obtain ⟨rfl, rfl, rfl, rfl, rfl, rfl, rfl, rfl⟩ := h
    have e0 : bits .and .u64 a0_1 65535 % 4294967296 = bigD (a0_1 + a0_0 * 18446744073709551616) 0 := by rw [and_65535 (by omega) (by omega)]; simp only [bigD]; omega
    have e1 : bits .and .u64 (a0_1 / 65536) 65535 % 4294967296 = bigD (a0_1 + a0_0 * 18446744073709551616) 1 := by rw [and_65535 (by omega) (by omega)]; simp only [bigD]; omega
    have e2 : bits .and .u64 (a0_1 / 4294967296) 65535 % 4294967296 = bigD (a0_1 + a0_0 * 18446744073709551616) 2 := by rw [and_65535 (by omega) (by omega)]; simp only [bigD]; omega
    have e3 : bits .and .u64 (a0_1 / 281474976710656) 65535 % 4294967296 = bigD (a0_1 + a0_0 * 18446744073709551616) 3 := by rw [and_65535 (by omega) (by omega)]; simp only [bigD]; omega
    have e4 : bits .and .u64 a0_0 65535 % 4294967296 = bigD (a0_1 + a0_0 * 18446744073709551616) 4 := by rw [and_65535 (by omega) (by omega)]; simp only [bigD]; omega
    have e5 : bits .and .u64 (a0_0 / 65536) 65535 % 4294967296 = bigD (a0_1 + a0_0 * 18446744073709551616) 5 := by rw [and_65535 (by omega) (by omega)]; simp only [bigD]; omega
    have e6 : bits .and .u64 (a0_0 / 4294967296) 65535 % 4294967296 = bigD (a0_1 + a0_0 * 18446744073709551616) 6 := by rw [and_65535 (by omega) (by omega)]; simp only [bigD]; omega
    have e7 : bits .and .u64 (a0_0 / 281474976710656) 65535 % 4294967296 = bigD (a0_1 + a0_0 * 18446744073709551616) 7 := by rw [and_65535 (by omega) (by omega)]; simp only [bigD]; omega
    rw [e0, e1, e2, e3, e4, e5, e6, e7]
  · repeat (first | (with_reducible exact Below.refl _ _) | apply below_alloc)


/-! ### offertoryref09_Int: function 11 -/
def offertoryref09_Int.f (a0 : Int) : Option (Int × Int × Int × Int × Int × Int × Int × Int) :=
  if -9223372036854775808 ≤ a0 ∧ a0 ≤ 9223372036854775807 then some (digs a0) else none
set_option maxHeartbeats 1600000 in
set_option maxRecDepth 100000 in
theorem offertoryref09_Int.calls (a0 r1 r2 r3 r4 r5 r6 r7 r8 : Int) (w : World) (h : offertoryref09_Int.f a0 = some (r1, r2, r3, r4, r5, r6, r7, r8)) :
    Calls Try.prog 11 #[.int .i64 a0] w fun e w' => e = .returned (.agg #[.int .u32 r1, .int .u32 r2, .int .u32 r3, .int .u32 r4, .int .u32 r5, .int .u32 r6, .int .u32 r7, .int .u32 r8]) ∧ Below w.heap.size w w' := by
  unfold offertoryref09_Int.f at h
  split at h
  case isFalse => cases h
  rename_i hr
  simp only [Option.some.injEq, digs, Prod.mk.injEq] at h
  have H := Aside0.mk h
  clear h
  have hu29 := Try.underlying41
  have hu25 := Try.underlying34
  by_cases hn : a0 < 0
  · have hof : offertoryref09_Of.f 0 (a0 + 18446744073709551616) = some (bigD (a0 + 18446744073709551616) 0, bigD (a0 + 18446744073709551616) 1, bigD (a0 + 18446744073709551616) 2, bigD (a0 + 18446744073709551616) 3, 0, 0, 0, 0) := by
      have y4 : bigD (a0 + 18446744073709551616) 4 = 0 := by simp only [bigD]; omega
      have y5 : bigD (a0 + 18446744073709551616) 5 = 0 := by simp only [bigD]; omega
      have y6 : bigD (a0 + 18446744073709551616) 6 = 0 := by simp only [bigD]; omega
      have y7 : bigD (a0 + 18446744073709551616) 7 = 0 := by simp only [bigD]; omega
      unfold offertoryref09_Of.f
      rw [if_pos (by omega)]
      simp only [digs, Int.zero_mul, Int.add_zero, y4, y5, y6, y7]
    have hw : IntKind.u64.wrap a0 = a0 + 18446744073709551616 := by rw [IntKind.wrap_u64]; omega
    obtain ⟨rfl, rfl, rfl, rfl, rfl, rfl, rfl, rfl⟩ := H.out
    have z0 : bigD a0 0 = bigD (a0 + 18446744073709551616) 0 := by simp only [bigD]; omega
    have z1 : bigD a0 1 = bigD (a0 + 18446744073709551616) 1 := by simp only [bigD]; omega
    have z2 : bigD a0 2 = bigD (a0 + 18446744073709551616) 2 := by simp only [bigD]; omega
    have z3 : bigD a0 3 = bigD (a0 + 18446744073709551616) 3 := by simp only [bigD]; omega
    have z4 : bigD a0 4 = 65535 := by simp only [bigD]; omega
    have z5 : bigD a0 5 = 65535 := by simp only [bigD]; omega
    have z6 : bigD a0 6 = 65535 := by simp only [bigD]; omega
    have z7 : bigD a0 7 = 65535 := by simp only [bigD]; omega
    rw [z0, z1, z2, z3, z4, z5, z6, z7]
    clear z0 z1 z2 z3 z4 z5 z6 z7
    have HOF := Aside0.mk hof
    have t1 : decide (a0 < 0) = true := decide_eq_true hn
    clear hof H
    go_enter Try.func11, Try.ntmps11
    go_wp2_with fail
    go_at_call 12
    refine (offertoryref09_Of.calls 0 (a0 + 18446744073709551616) _ _ _ _ _ _ _ _ _ HOF.out).mono ?_
    rintro e w' ⟨rfl, hb⟩
    have hR : ArrAt w' w.heap.size 41 .u32 [0, 0, 0, 0, 0, 0, 0, 0] := ArrAt.below (blk_new w (.cells (nums .u32 [0, 0, 0, 0, 0, 0, 0, 0]).toArray 41)) hb
    have HB := Aside0.mk (below_step (w := w) (by repeat (first | (with_reducible exact Below.refl _ _) | apply below_alloc)) hb)
    have HR := Aside0.mk hR
    have hz : w.heap.size < w'.heap.size := by have := hb.size; rw [alloc_size] at this; omega
    have d0 := hR.get 0 (by decide)
    have f0 := hR.frz 0
    have d1 := hR.get 1 (by decide)
    have f1 := hR.frz 1
    have d2 := hR.get 2 (by decide)
    have f2 := hR.frz 2
    have d3 := hR.get 3 (by decide)
    have f3 := hR.frz 3
    have d4 := hR.get 4 (by decide)
    have f4 := hR.frz 4
    have d5 := hR.get 5 (by decide)
    have f5 := hR.frz 5
    have d6 := hR.get 6 (by decide)
    have f6 := hR.frz 6
    have d7 := hR.get 7 (by decide)
    have f7 := hR.frz 7
    clear hb hR
    go_wp2
    refine wp_loop_rounds 5 ?_
    rw [rounds_succ]
    go_wp2
    rw [rounds_succ]
    go_wp2
    rw [rounds_succ]
    go_wp2
    rw [rounds_succ]
    go_wp2
    rw [rounds_succ]
    go_wp2
    have hp := (HR.out.put8 [bigD (a0 + 18446744073709551616) 0, bigD (a0 + 18446744073709551616) 1, bigD (a0 + 18446744073709551616) 2, bigD (a0 + 18446744073709551616) 3, 65535, 65535, 65535, 65535] rfl rfl).alloc (.cells #[.int .u32 (bigD (a0 + 18446744073709551616) 0), .int .u32 (bigD (a0 + 18446744073709551616) 1), .int .u32 (bigD (a0 + 18446744073709551616) 2), .int .u32 (bigD (a0 + 18446744073709551616) 3), .int .u32 65535, .int .u32 65535, .int .u32 65535, .int .u32 65535] 41)
    refine bodyPost_ret (results_cell_row rfl _ _ w.heap.size 41 (nums .u32 [bigD (a0 + 18446744073709551616) 0, bigD (a0 + 18446744073709551616) 1, bigD (a0 + 18446744073709551616) 2, bigD (a0 + 18446744073709551616) 3, 65535, 65535, 65535, 65535]).toArray (0, 0) _ rfl hp Try.underlying41 rfl (by kernel_rfl)) rfl ⟨rfl, ?_⟩
    repeat (first | (with_reducible exact HB.out) | (with_reducible refine below_alloc ?_ _) | (with_reducible refine below_set ?_ (by omega)))
  · have hof : offertoryref09_Of.f 0 a0 = some (r1, r2, r3, r4, r5, r6, r7, r8) := by
      unfold offertoryref09_Of.f
      rw [if_pos (by omega)]
      simp only [Int.zero_mul, Int.add_zero, digs, H.out]
    have hw : IntKind.u64.wrap a0 = a0 := by rw [IntKind.wrap_u64]; omega
    have HOF := Aside0.mk hof
    have t1 : decide (a0 < 0) = false := decide_eq_false hn
    clear hof H
    go_enter Try.func11, Try.ntmps11
    go_wp2_with fail
    go_at_call 12
    refine (offertoryref09_Of.calls 0 a0 _ _ _ _ _ _ _ _ _ HOF.out).mono ?_
    rintro e w' ⟨rfl, hb⟩
    have hR : ArrAt w' w.heap.size 41 .u32 [0, 0, 0, 0, 0, 0, 0, 0] := ArrAt.below (blk_new w (.cells (nums .u32 [0, 0, 0, 0, 0, 0, 0, 0]).toArray 41)) hb
    have HB := Aside0.mk (below_step (w := w) (by repeat (first | (with_reducible exact Below.refl _ _) | apply below_alloc)) hb)
    have HR := Aside0.mk hR
    have hz : w.heap.size < w'.heap.size := by have := hb.size; rw [alloc_size] at this; omega
    have d0 := hR.get 0 (by decide)
    have f0 := hR.frz 0
    have d1 := hR.get 1 (by decide)
    have f1 := hR.frz 1
    have d2 := hR.get 2 (by decide)
    have f2 := hR.frz 2
    have d3 := hR.get 3 (by decide)
    have f3 := hR.frz 3
    have d4 := hR.get 4 (by decide)
    have f4 := hR.frz 4
    have d5 := hR.get 5 (by decide)
    have f5 := hR.frz 5
    have d6 := hR.get 6 (by decide)
    have f6 := hR.frz 6
    have d7 := hR.get 7 (by decide)
    have f7 := hR.frz 7
    clear hb hR
    go_wp2
    refine wp_loop_rounds 1 ?_
    rw [rounds_succ]
    go_wp2
    have hp := (HR.out.put8 [r1, r2, r3, r4, r5, r6, r7, r8] rfl rfl).alloc (.cells #[.int .u32 r1, .int .u32 r2, .int .u32 r3, .int .u32 r4, .int .u32 r5, .int .u32 r6, .int .u32 r7, .int .u32 r8] 41)
    refine bodyPost_ret (results_cell_row rfl _ _ w.heap.size 41 (nums .u32 [r1, r2, r3, r4, r5, r6, r7, r8]).toArray (0, 0) _ rfl hp Try.underlying41 rfl (by kernel_rfl)) rfl ⟨rfl, ?_⟩
    repeat (first | (with_reducible exact HB.out) | (with_reducible refine below_alloc ?_ _) | (with_reducible refine below_set ?_ (by omega)))


/-! ### offertoryref09_Add: function 16 -/
/-- Digits of a sum, and what is carried. -/
def carryAt (A B : List Int) : Nat → Int
  | 0 => 0
  | k + 1 => (rd A k + rd B k + carryAt A B k) / 65536
def digAt (A B : List Int) (k : Nat) : Int := (rd A k + rd B k + carryAt A B k) % 65536
theorem carry_in {A B : List Int} (hA : Small A) (hB : Small B) : ∀ k, 0 ≤ carryAt A B k ∧ carryAt A B k ≤ 1
  | 0 => by simp [carryAt]
  | k + 1 => by
    have := hA.2 k; have := hB.2 k; have := carry_in hA hB k
    simp only [carryAt]; omega
/-- The array behind k rounds. -/
def sumS (A B : List Int) (k : Nat) : List Int := (List.range 8).map (fun j => if j < k then digAt A B j else rd A j)
theorem sumS_length (A B : List Int) (k : Nat) : (sumS A B k).length = 8 := by simp [sumS]
theorem sumS_get (A B : List Int) (k : Nat) (h : k < 8) : rd (sumS A B k) (k : Int) = rd A k := by
  simp [sumS, rd, List.getD, h]
theorem sumS_zero {A : List Int} (hA : A.length = 8) (B : List Int) : sumS A B 0 = A := by
  refine List.ext_getElem (by simp [sumS, hA]) (fun i h1 h2 => ?_)
  simp [sumS, rd, List.getD, List.getElem?_eq_getElem h2]
theorem sumS_set (A B : List Int) (k : Nat) (h : k < 8) : (sumS A B k).set k (digAt A B k) = sumS A B (k + 1) := by
  refine List.ext_getElem (by simp [sumS]) (fun i h1 h2 => ?_)
  simp only [List.getElem_set, sumS, List.getElem_map, List.getElem_range]
  by_cases e : k = i
  · subst e; simp
  · rw [if_neg e]
    by_cases h3 : i < k
    · rw [if_pos h3, if_pos (by omega)]
    · rw [if_neg h3, if_neg (by omega)]
def AddI (w : World) (ga gb gr : Nat) (A B : List Int) (k : Nat) (w' : World) : Prop :=
  Below w.heap.size w w' ∧ ArrAt w' ga 41 .u32 (sumS A B k) ∧ ArrAt w' gb 41 .u32 B ∧ ArrAt w' gr 41 .u32 [0, 0, 0, 0, 0, 0, 0, 0]
set_option maxHeartbeats 800000 in
set_option maxRecDepth 100000 in
theorem offertoryref09_Add.calls0 (A B : List Int) (hA : Small A) (hB : Small B) (w : World) :
    Calls Try.prog 16 #[.agg (nums .u32 A).toArray, .agg (nums .u32 B).toArray] w fun e w' => e = .returned (.agg (nums .u32 (sumS A B 8)).toArray) ∧ Below w.heap.size w w' := by
  have hu29 := Try.underlying41
  go_enter Try.func16, Try.ntmps16
  go_wp2
  go_loopw [5, 6] (fun c i w' => ∃ k : Nat, k ≤ 8 ∧ c = .int .u32 (carryAt A B k) ∧ i = .int .i64 k ∧ AddI w w.heap.size (w.heap.size + 1) (w.heap.size + 1 + 1) A B k w') (fun _ i _ => 8 - (intOf i).toNat)
  case atStart =>
    refine ⟨0, by omega, rfl, rfl, ?_, ?_, ?_, ?_⟩
    · repeat (first | (with_reducible exact Below.refl _ _) | apply below_alloc)
    · rw [sumS_zero hA.1]
      exact blk_alloc (blk_alloc (blk_new _ _) _) _
    · have h := blk_alloc (blk_new (w.alloc (.cells (nums .u32 A).toArray 41)) (.cells (nums .u32 B).toArray 41)) (.cells (nums .u32 [0, 0, 0, 0, 0, 0, 0, 0]).toArray 41)
      rw [alloc_size] at h
      exact h
    · have h := blk_new ((w.alloc (.cells (nums .u32 A).toArray 41)).alloc (.cells (nums .u32 B).toArray 41)) (.cells (nums .u32 [0, 0, 0, 0, 0, 0, 0, 0]).toArray 41)
      rw [alloc_size, alloc_size] at h
      exact h
  case round =>
    obtain ⟨k, hk, rfl, rfl, hb, ha1, ha2, ha3⟩ := hrel
    by_cases hlt : k < 8
    · have g1 := ha1.get k (by rw [sumS_length]; exact hlt)
      rw [sumS_get A B k hlt] at g1
      have g2 := ha2.get k (by rw [hB.1]; exact hlt)
      have f1 := ha1.frz k
      have bA := hA.2 k
      have bB := hB.2 k
      have bc := carry_in hA hB k
      have HB := Aside0.mk hb
      have H1 := Aside0.mk ha1
      have H2 := Aside0.mk ha2
      have H3 := Aside0.mk ha3
      clear hb ha1 ha2 ha3
      go_wp2
      go_quiet (fail)
      go_wp2
      go_roundw
      case rel =>
        refine ⟨k + 1, by omega, rfl, by go_num, ?_, ?_, ?_, ?_⟩
        · exact below_set (pw_below_drewN HB.out nq) (Nat.le_refl _)
        · have h := (H1.out.drew nq).put k (digAt A B k)
          rw [sumS_set A B k hlt] at h
          exact h
        · exact (H2.out.drew nq).far (by omega)
        · exact (H3.out.drew nq).far (by omega)
      case measure => simp [intOf]; omega
    · have e8 : k = 8 := by omega
      subst e8
      have HB := Aside0.mk hb
      have H3 := Aside0.mk ha3
      have c0 := ha1.get 0 (by rw [sumS_length]; decide)
      have d0 := ha3.get 0 (by decide)
      have f0 := ha3.frz 0
      have c1 := ha1.get 1 (by rw [sumS_length]; decide)
      have d1 := ha3.get 1 (by decide)
      have f1 := ha3.frz 1
      have c2 := ha1.get 2 (by rw [sumS_length]; decide)
      have d2 := ha3.get 2 (by decide)
      have f2 := ha3.frz 2
      have c3 := ha1.get 3 (by rw [sumS_length]; decide)
      have d3 := ha3.get 3 (by decide)
      have f3 := ha3.frz 3
      have c4 := ha1.get 4 (by rw [sumS_length]; decide)
      have d4 := ha3.get 4 (by decide)
      have f4 := ha3.frz 4
      have c5 := ha1.get 5 (by rw [sumS_length]; decide)
      have d5 := ha3.get 5 (by decide)
      have f5 := ha3.frz 5
      have c6 := ha1.get 6 (by rw [sumS_length]; decide)
      have d6 := ha3.get 6 (by decide)
      have f6 := ha3.frz 6
      have c7 := ha1.get 7 (by rw [sumS_length]; decide)
      have d7 := ha3.get 7 (by decide)
      have f7 := ha3.frz 7
      clear hb ha1 ha2 ha3
      go_wp2
      have hp := H3.out.put8 (sumS A B 8) (sumS_length A B 8) (by decide)
      refine bodyPost_ret (results_cell_row rfl _ _ (w.heap.size + 1 + 1) 41 (nums .u32 (sumS A B 8)).toArray (0, 0) _ rfl hp Try.underlying41 rfl (by rw [nums_size, sumS_length]; kernel_rfl)) rfl ⟨rfl, ?_⟩
      repeat (first | (with_reducible exact HB.out) | (refine below_set ?_ (by omega)))
def offertoryref09_Add.f (a0 a1 a2 a3 a4 a5 a6 a7 b0 b1 b2 b3 b4 b5 b6 b7 : Int) : Option (Int × Int × Int × Int × Int × Int × Int × Int) :=
  if Dig a0 a1 a2 a3 a4 a5 a6 a7 ∧ Dig b0 b1 b2 b3 b4 b5 b6 b7 then some (digs (bigV a0 a1 a2 a3 a4 a5 a6 a7 + bigV b0 b1 b2 b3 b4 b5 b6 b7)) else none
set_option maxRecDepth 100000 in
theorem offertoryref09_Add.calls (a0 a1 a2 a3 a4 a5 a6 a7 b0 b1 b2 b3 b4 b5 b6 b7 r1 r2 r3 r4 r5 r6 r7 r8 : Int) (w : World) (h : offertoryref09_Add.f a0 a1 a2 a3 a4 a5 a6 a7 b0 b1 b2 b3 b4 b5 b6 b7 = some (r1, r2, r3, r4, r5, r6, r7, r8)) :
    Calls Try.prog 16 #[.agg #[.int .u32 a0, .int .u32 a1, .int .u32 a2, .int .u32 a3, .int .u32 a4, .int .u32 a5, .int .u32 a6, .int .u32 a7], .agg #[.int .u32 b0, .int .u32 b1, .int .u32 b2, .int .u32 b3, .int .u32 b4, .int .u32 b5, .int .u32 b6, .int .u32 b7]] w fun e w' => e = .returned (.agg #[.int .u32 r1, .int .u32 r2, .int .u32 r3, .int .u32 r4, .int .u32 r5, .int .u32 r6, .int .u32 r7, .int .u32 r8]) ∧ Below w.heap.size w w' := by
  unfold offertoryref09_Add.f at h
  split at h
  case isFalse => cases h
  rename_i hr
  have hA : Small [a0, a1, a2, a3, a4, a5, a6, a7] := hr.1.small
  have hB : Small [b0, b1, b2, b3, b4, b5, b6, b7] := hr.2.small
  refine (offertoryref09_Add.calls0 [a0, a1, a2, a3, a4, a5, a6, a7] [b0, b1, b2, b3, b4, b5, b6, b7] hA hB w).mono ?_
  rintro e w' ⟨rfl, hb⟩
  refine ⟨?_, hb⟩
  simp only [Option.some.injEq, digs, Prod.mk.injEq] at h
  obtain ⟨rfl, rfl, rfl, rfl, rfl, rfl, rfl, rfl⟩ := h
  obtain ⟨hr1, hr2⟩ := hr
  unfold Dig at hr1 hr2
  have hc1 : carryAt [a0, a1, a2, a3, a4, a5, a6, a7] [b0, b1, b2, b3, b4, b5, b6, b7] 1 = (a0 + b0 + carryAt [a0, a1, a2, a3, a4, a5, a6, a7] [b0, b1, b2, b3, b4, b5, b6, b7] 0) / 65536 := rfl
  have hc2 : carryAt [a0, a1, a2, a3, a4, a5, a6, a7] [b0, b1, b2, b3, b4, b5, b6, b7] 2 = (a1 + b1 + carryAt [a0, a1, a2, a3, a4, a5, a6, a7] [b0, b1, b2, b3, b4, b5, b6, b7] 1) / 65536 := rfl
  have hc3 : carryAt [a0, a1, a2, a3, a4, a5, a6, a7] [b0, b1, b2, b3, b4, b5, b6, b7] 3 = (a2 + b2 + carryAt [a0, a1, a2, a3, a4, a5, a6, a7] [b0, b1, b2, b3, b4, b5, b6, b7] 2) / 65536 := rfl
  have hc4 : carryAt [a0, a1, a2, a3, a4, a5, a6, a7] [b0, b1, b2, b3, b4, b5, b6, b7] 4 = (a3 + b3 + carryAt [a0, a1, a2, a3, a4, a5, a6, a7] [b0, b1, b2, b3, b4, b5, b6, b7] 3) / 65536 := rfl
  have hc5 : carryAt [a0, a1, a2, a3, a4, a5, a6, a7] [b0, b1, b2, b3, b4, b5, b6, b7] 5 = (a4 + b4 + carryAt [a0, a1, a2, a3, a4, a5, a6, a7] [b0, b1, b2, b3, b4, b5, b6, b7] 4) / 65536 := rfl
  have hc6 : carryAt [a0, a1, a2, a3, a4, a5, a6, a7] [b0, b1, b2, b3, b4, b5, b6, b7] 6 = (a5 + b5 + carryAt [a0, a1, a2, a3, a4, a5, a6, a7] [b0, b1, b2, b3, b4, b5, b6, b7] 5) / 65536 := rfl
  have hc7 : carryAt [a0, a1, a2, a3, a4, a5, a6, a7] [b0, b1, b2, b3, b4, b5, b6, b7] 7 = (a6 + b6 + carryAt [a0, a1, a2, a3, a4, a5, a6, a7] [b0, b1, b2, b3, b4, b5, b6, b7] 6) / 65536 := rfl
  have hc8 : carryAt [a0, a1, a2, a3, a4, a5, a6, a7] [b0, b1, b2, b3, b4, b5, b6, b7] 8 = (a7 + b7 + carryAt [a0, a1, a2, a3, a4, a5, a6, a7] [b0, b1, b2, b3, b4, b5, b6, b7] 7) / 65536 := rfl
  have hd0 : digAt [a0, a1, a2, a3, a4, a5, a6, a7] [b0, b1, b2, b3, b4, b5, b6, b7] 0 = (a0 + b0 + carryAt [a0, a1, a2, a3, a4, a5, a6, a7] [b0, b1, b2, b3, b4, b5, b6, b7] 0) % 65536 := rfl
  have hd1 : digAt [a0, a1, a2, a3, a4, a5, a6, a7] [b0, b1, b2, b3, b4, b5, b6, b7] 1 = (a1 + b1 + carryAt [a0, a1, a2, a3, a4, a5, a6, a7] [b0, b1, b2, b3, b4, b5, b6, b7] 1) % 65536 := rfl
  have hd2 : digAt [a0, a1, a2, a3, a4, a5, a6, a7] [b0, b1, b2, b3, b4, b5, b6, b7] 2 = (a2 + b2 + carryAt [a0, a1, a2, a3, a4, a5, a6, a7] [b0, b1, b2, b3, b4, b5, b6, b7] 2) % 65536 := rfl
  have hd3 : digAt [a0, a1, a2, a3, a4, a5, a6, a7] [b0, b1, b2, b3, b4, b5, b6, b7] 3 = (a3 + b3 + carryAt [a0, a1, a2, a3, a4, a5, a6, a7] [b0, b1, b2, b3, b4, b5, b6, b7] 3) % 65536 := rfl
  have hd4 : digAt [a0, a1, a2, a3, a4, a5, a6, a7] [b0, b1, b2, b3, b4, b5, b6, b7] 4 = (a4 + b4 + carryAt [a0, a1, a2, a3, a4, a5, a6, a7] [b0, b1, b2, b3, b4, b5, b6, b7] 4) % 65536 := rfl
  have hd5 : digAt [a0, a1, a2, a3, a4, a5, a6, a7] [b0, b1, b2, b3, b4, b5, b6, b7] 5 = (a5 + b5 + carryAt [a0, a1, a2, a3, a4, a5, a6, a7] [b0, b1, b2, b3, b4, b5, b6, b7] 5) % 65536 := rfl
  have hd6 : digAt [a0, a1, a2, a3, a4, a5, a6, a7] [b0, b1, b2, b3, b4, b5, b6, b7] 6 = (a6 + b6 + carryAt [a0, a1, a2, a3, a4, a5, a6, a7] [b0, b1, b2, b3, b4, b5, b6, b7] 6) % 65536 := rfl
  have hd7 : digAt [a0, a1, a2, a3, a4, a5, a6, a7] [b0, b1, b2, b3, b4, b5, b6, b7] 7 = (a7 + b7 + carryAt [a0, a1, a2, a3, a4, a5, a6, a7] [b0, b1, b2, b3, b4, b5, b6, b7] 7) % 65536 := rfl
  have hc0 : carryAt [a0, a1, a2, a3, a4, a5, a6, a7] [b0, b1, b2, b3, b4, b5, b6, b7] 0 = 0 := rfl
  have he : sumS [a0, a1, a2, a3, a4, a5, a6, a7] [b0, b1, b2, b3, b4, b5, b6, b7] 8 = [digAt [a0, a1, a2, a3, a4, a5, a6, a7] [b0, b1, b2, b3, b4, b5, b6, b7] 0, digAt [a0, a1, a2, a3, a4, a5, a6, a7] [b0, b1, b2, b3, b4, b5, b6, b7] 1, digAt [a0, a1, a2, a3, a4, a5, a6, a7] [b0, b1, b2, b3, b4, b5, b6, b7] 2, digAt [a0, a1, a2, a3, a4, a5, a6, a7] [b0, b1, b2, b3, b4, b5, b6, b7] 3, digAt [a0, a1, a2, a3, a4, a5, a6, a7] [b0, b1, b2, b3, b4, b5, b6, b7] 4, digAt [a0, a1, a2, a3, a4, a5, a6, a7] [b0, b1, b2, b3, b4, b5, b6, b7] 5, digAt [a0, a1, a2, a3, a4, a5, a6, a7] [b0, b1, b2, b3, b4, b5, b6, b7] 6, digAt [a0, a1, a2, a3, a4, a5, a6, a7] [b0, b1, b2, b3, b4, b5, b6, b7] 7] := rfl
  rw [he]
  generalize carryAt [a0, a1, a2, a3, a4, a5, a6, a7] [b0, b1, b2, b3, b4, b5, b6, b7] 0 = c0 at *
  generalize carryAt [a0, a1, a2, a3, a4, a5, a6, a7] [b0, b1, b2, b3, b4, b5, b6, b7] 1 = c1 at *
  generalize carryAt [a0, a1, a2, a3, a4, a5, a6, a7] [b0, b1, b2, b3, b4, b5, b6, b7] 2 = c2 at *
  generalize carryAt [a0, a1, a2, a3, a4, a5, a6, a7] [b0, b1, b2, b3, b4, b5, b6, b7] 3 = c3 at *
  generalize carryAt [a0, a1, a2, a3, a4, a5, a6, a7] [b0, b1, b2, b3, b4, b5, b6, b7] 4 = c4 at *
  generalize carryAt [a0, a1, a2, a3, a4, a5, a6, a7] [b0, b1, b2, b3, b4, b5, b6, b7] 5 = c5 at *
  generalize carryAt [a0, a1, a2, a3, a4, a5, a6, a7] [b0, b1, b2, b3, b4, b5, b6, b7] 6 = c6 at *
  generalize carryAt [a0, a1, a2, a3, a4, a5, a6, a7] [b0, b1, b2, b3, b4, b5, b6, b7] 7 = c7 at *
  generalize carryAt [a0, a1, a2, a3, a4, a5, a6, a7] [b0, b1, b2, b3, b4, b5, b6, b7] 8 = c8 at *
  generalize digAt [a0, a1, a2, a3, a4, a5, a6, a7] [b0, b1, b2, b3, b4, b5, b6, b7] 0 = d0 at *
  generalize digAt [a0, a1, a2, a3, a4, a5, a6, a7] [b0, b1, b2, b3, b4, b5, b6, b7] 1 = d1 at *
  generalize digAt [a0, a1, a2, a3, a4, a5, a6, a7] [b0, b1, b2, b3, b4, b5, b6, b7] 2 = d2 at *
  generalize digAt [a0, a1, a2, a3, a4, a5, a6, a7] [b0, b1, b2, b3, b4, b5, b6, b7] 3 = d3 at *
  generalize digAt [a0, a1, a2, a3, a4, a5, a6, a7] [b0, b1, b2, b3, b4, b5, b6, b7] 4 = d4 at *
  generalize digAt [a0, a1, a2, a3, a4, a5, a6, a7] [b0, b1, b2, b3, b4, b5, b6, b7] 5 = d5 at *
  generalize digAt [a0, a1, a2, a3, a4, a5, a6, a7] [b0, b1, b2, b3, b4, b5, b6, b7] 6 = d6 at *
  generalize digAt [a0, a1, a2, a3, a4, a5, a6, a7] [b0, b1, b2, b3, b4, b5, b6, b7] 7 = d7 at *
  unfold bigV at *
  have e0 : d0 = bigD (bigV a0 a1 a2 a3 a4 a5 a6 a7 + bigV b0 b1 b2 b3 b4 b5 b6 b7) 0 := by simp only [bigD, bigV]; omega
  have e1 : d1 = bigD (bigV a0 a1 a2 a3 a4 a5 a6 a7 + bigV b0 b1 b2 b3 b4 b5 b6 b7) 1 := by simp only [bigD, bigV]; omega
  have e2 : d2 = bigD (bigV a0 a1 a2 a3 a4 a5 a6 a7 + bigV b0 b1 b2 b3 b4 b5 b6 b7) 2 := by simp only [bigD, bigV]; omega
  have e3 : d3 = bigD (bigV a0 a1 a2 a3 a4 a5 a6 a7 + bigV b0 b1 b2 b3 b4 b5 b6 b7) 3 := by simp only [bigD, bigV]; omega
  have e4 : d4 = bigD (bigV a0 a1 a2 a3 a4 a5 a6 a7 + bigV b0 b1 b2 b3 b4 b5 b6 b7) 4 := by simp only [bigD, bigV]; omega
  have e5 : d5 = bigD (bigV a0 a1 a2 a3 a4 a5 a6 a7 + bigV b0 b1 b2 b3 b4 b5 b6 b7) 5 := by simp only [bigD, bigV]; omega
  have e6 : d6 = bigD (bigV a0 a1 a2 a3 a4 a5 a6 a7 + bigV b0 b1 b2 b3 b4 b5 b6 b7) 6 := by simp only [bigD, bigV]; omega
  have e7 : d7 = bigD (bigV a0 a1 a2 a3 a4 a5 a6 a7 + bigV b0 b1 b2 b3 b4 b5 b6 b7) 7 := by simp only [bigD, bigV]; omega
  rw [e0, e1, e2, e3, e4, e5, e6, e7]
  rfl


/-! ### offertoryref09_Neg: function 13 -/
def offertoryref09_Neg.f (a0_0 a0_1 a0_2 a0_3 a0_4 a0_5 a0_6 a0_7 : Int) : Option (Int × Int × Int × Int × Int × Int × Int × Int) :=
  if Dig a0_0 a0_1 a0_2 a0_3 a0_4 a0_5 a0_6 a0_7 then some (digs (340282366920938463463374607431768211456 - bigV a0_0 a0_1 a0_2 a0_3 a0_4 a0_5 a0_6 a0_7)) else none
set_option maxHeartbeats 1600000 in
set_option maxRecDepth 100000 in
theorem offertoryref09_Neg.calls (a0_0 a0_1 a0_2 a0_3 a0_4 a0_5 a0_6 a0_7 r1 r2 r3 r4 r5 r6 r7 r8 : Int) (w : World) (h : offertoryref09_Neg.f a0_0 a0_1 a0_2 a0_3 a0_4 a0_5 a0_6 a0_7 = some (r1, r2, r3, r4, r5, r6, r7, r8)) :
    Calls Try.prog 13 #[.agg #[.int .u32 a0_0, .int .u32 a0_1, .int .u32 a0_2, .int .u32 a0_3, .int .u32 a0_4, .int .u32 a0_5, .int .u32 a0_6, .int .u32 a0_7]] w fun e w' => e = .returned (.agg #[.int .u32 r1, .int .u32 r2, .int .u32 r3, .int .u32 r4, .int .u32 r5, .int .u32 r6, .int .u32 r7, .int .u32 r8]) ∧ Below w.heap.size w w' := by
  unfold offertoryref09_Neg.f at h
  split at h
  case isFalse => cases h
  rename_i hr
  unfold Dig at hr
  have hadd : offertoryref09_Add.f (65535 - a0_0) (65535 - a0_1) (65535 - a0_2) (65535 - a0_3) (65535 - a0_4) (65535 - a0_5) (65535 - a0_6) (65535 - a0_7) 1 0 0 0 0 0 0 0 = some (r1, r2, r3, r4, r5, r6, r7, r8) := by
    unfold offertoryref09_Add.f
    rw [if_pos ⟨by unfold Dig; omega, by unfold Dig; omega⟩]
    rw [← h]
    congr 2
    simp only [bigV]
    omega
  have HADD := Aside0.mk hadd
  clear hadd h
  obtain ⟨⟨l0, m0⟩, ⟨l1, m1⟩, ⟨l2, m2⟩, ⟨l3, m3⟩, ⟨l4, m4⟩, ⟨l5, m5⟩, ⟨l6, m6⟩, ⟨l7, m7⟩⟩ := hr
  have hu29 := Try.underlying41
  go_enter Try.func13, Try.ntmps13
  go_wp2
  refine wp_loop_rounds 9 ?_
  rw [rounds_succ]
  go_wp2
  rw [rounds_succ]
  go_wp2
  rw [rounds_succ]
  go_wp2
  rw [rounds_succ]
  go_wp2
  rw [rounds_succ]
  go_wp2
  rw [rounds_succ]
  go_wp2
  rw [rounds_succ]
  go_wp2
  rw [rounds_succ]
  go_wp2
  rw [rounds_succ]
  go_wp2_with fail
  go_at_call 16
  refine (offertoryref09_Add.calls (65535 - a0_0) (65535 - a0_1) (65535 - a0_2) (65535 - a0_3) (65535 - a0_4) (65535 - a0_5) (65535 - a0_6) (65535 - a0_7) 1 0 0 0 0 0 0 0 r1 r2 r3 r4 r5 r6 r7 r8 _ HADD.out).mono ?_
  rintro e w' ⟨rfl, hb⟩
  have hR : ArrAt w' (w.heap.size + 1) 41 .u32 [0, 0, 0, 0, 0, 0, 0, 0] := by
    refine ArrAt.below ?_ hb
    have h := blk_new (w.alloc (.cells #[.int .u32 (65535 - a0_0), .int .u32 (65535 - a0_1), .int .u32 (65535 - a0_2), .int .u32 (65535 - a0_3), .int .u32 (65535 - a0_4), .int .u32 (65535 - a0_5), .int .u32 (65535 - a0_6), .int .u32 (65535 - a0_7)] 41)) (.cells (nums .u32 [0, 0, 0, 0, 0, 0, 0, 0]).toArray 41)
    rw [alloc_size] at h
    exact h
  have HB := Aside0.mk (below_step (w := w) (by repeat (first | (with_reducible exact Below.refl _ _) | apply below_alloc | apply below_drew)) hb)
  have HR := Aside0.mk hR
  have d0 := hR.get 0 (by decide)
  have f0 := hR.frz 0
  have d1 := hR.get 1 (by decide)
  have f1 := hR.frz 1
  have d2 := hR.get 2 (by decide)
  have f2 := hR.frz 2
  have d3 := hR.get 3 (by decide)
  have f3 := hR.frz 3
  have d4 := hR.get 4 (by decide)
  have f4 := hR.frz 4
  have d5 := hR.get 5 (by decide)
  have f5 := hR.frz 5
  have d6 := hR.get 6 (by decide)
  have f6 := hR.frz 6
  have d7 := hR.get 7 (by decide)
  have f7 := hR.frz 7
  clear hb hR
  go_wp2
  have hp := HR.out.put8 [r1, r2, r3, r4, r5, r6, r7, r8] rfl rfl
  refine bodyPost_ret (results_cell_row rfl _ _ (w.heap.size + 1) 41 (nums .u32 [r1, r2, r3, r4, r5, r6, r7, r8]).toArray (0, 0) _ rfl hp Try.underlying41 rfl (by kernel_rfl)) rfl ⟨rfl, ?_⟩
  repeat (first | (with_reducible exact HB.out) | (refine below_set ?_ (by omega)))


/-! ### offertoryref09_Shift: function 14 -/
def offertoryref09_Shift.l0 : Nat → Int → Int → Int → Int → Int → Int → Int → Int → Int → Int → Option (Int × Int × Int × Int × Int × Int × Int × Int)
  | 0, _, _, _, _, _, _, _, _, _, _ => none
  | k + 1, x1, x5, x178000, x178001, x178002, x178003, x178004, x178005, x178006, x178007 => if x5 < x1 then (if x5 < 128 then ((offertoryref09_Add.f x178000 x178001 x178002 x178003 x178004 x178005 x178006 x178007 x178000 x178001 x178002 x178003 x178004 x178005 x178006 x178007).bind fun bt179 => (offertoryref09_Shift.l0 k x1 (wrap64 (x5 + 1)) bt179.1 bt179.2.1 bt179.2.2.1 bt179.2.2.2.1 bt179.2.2.2.2.1 bt179.2.2.2.2.2.1 bt179.2.2.2.2.2.2.1 bt179.2.2.2.2.2.2.2)) else (some (x178000, x178001, x178002, x178003, x178004, x178005, x178006, x178007))) else (some (x178000, x178001, x178002, x178003, x178004, x178005, x178006, x178007))
def offertoryref09_Shift.f (k : Nat) (a0_0 : Int) (a0_1 : Int) (a0_2 : Int) (a0_3 : Int) (a0_4 : Int) (a0_5 : Int) (a0_6 : Int) (a0_7 : Int) (a1 : Int) : Option (Int × Int × Int × Int × Int × Int × Int × Int) := offertoryref09_Shift.l0 k a1 0 a0_0 a0_1 a0_2 a0_3 a0_4 a0_5 a0_6 a0_7
theorem offertoryref09_Shift.mono_l : ∀ k, (∀ y0 y1 y2 y3 y4 y5 y6 y7 y8 y9, LeO (offertoryref09_Shift.l0 k y0 y1 y2 y3 y4 y5 y6 y7 y8 y9) (offertoryref09_Shift.l0 (k + 1) y0 y1 y2 y3 y4 y5 y6 y7 y8 y9))
  | 0 => fun _ _ _ _ _ _ _ _ _ _ r h => by simp [offertoryref09_Shift.l0] at h
  | k + 1 => by
    have ih0 := offertoryref09_Shift.mono_l k
    · intro y0 y1 y2 y3 y4 y5 y6 y7 y8 y9
      unfold offertoryref09_Shift.l0
      repeat' first
      | (with_reducible exact ih0 _ _ _ _ _ _ _ _ _ _)
      | (with_reducible exact LeO.refl _)
      | (with_reducible exact LeO.none _)
      | (with_reducible refine LeO.ite ?_ ?_)
      | (with_reducible refine LeO.bind ?_ (fun _ => ?_))
      | exact ih0 _ _ _ _ _ _ _ _ _ _
      | exact LeO.none _
      | refine LeO.ite ?_ ?_
      | refine LeO.bind ?_ (fun _ => ?_)
theorem offertoryref09_Shift.mono : ∀ a0 a1 a2 a3 a4 a5 a6 a7 a8 k, LeO (offertoryref09_Shift.f k a0 a1 a2 a3 a4 a5 a6 a7 a8) (offertoryref09_Shift.f (k + 1) a0 a1 a2 a3 a4 a5 a6 a7 a8) := by
  intro a0 a1 a2 a3 a4 a5 a6 a7 a8 k
  have ih0 := offertoryref09_Shift.mono_l k
  unfold offertoryref09_Shift.f
  repeat' first
      | (with_reducible exact ih0 _ _ _ _ _ _ _ _ _ _)
      | (with_reducible exact LeO.refl _)
      | (with_reducible exact LeO.none _)
      | (with_reducible refine LeO.ite ?_ ?_)
      | (with_reducible refine LeO.bind ?_ (fun _ => ?_))
      | exact ih0 _ _ _ _ _ _ _ _ _ _
      | exact LeO.none _
      | refine LeO.ite ?_ ?_
      | refine LeO.bind ?_ (fun _ => ?_)
set_option maxHeartbeats 8000000 in
set_option maxRecDepth 100000 in
theorem offertoryref09_Shift.calls (k : Nat) (a0_0 : Int) (a0_1 : Int) (a0_2 : Int) (a0_3 : Int) (a0_4 : Int) (a0_5 : Int) (a0_6 : Int) (a0_7 : Int) (a1 : Int) (r1 : Int) (r2 : Int) (r3 : Int) (r4 : Int) (r5 : Int) (r6 : Int) (r7 : Int) (r8 : Int) (w : World) (h : offertoryref09_Shift.f k a0_0 a0_1 a0_2 a0_3 a0_4 a0_5 a0_6 a0_7 a1 = some (r1, r2, r3, r4, r5, r6, r7, r8)) :
    Calls Try.prog 14 #[.agg #[.int .u32 a0_0, .int .u32 a0_1, .int .u32 a0_2, .int .u32 a0_3, .int .u32 a0_4, .int .u32 a0_5, .int .u32 a0_6, .int .u32 a0_7], .int .i64 a1] w fun e w' => e = .returned (.agg #[.int .u32 r1, .int .u32 r2, .int .u32 r3, .int .u32 r4, .int .u32 r5, .int .u32 r6, .int .u32 r7, .int .u32 r8]) ∧ Below w.heap.size w w' := by
  have hu41 := Try.underlying41
  have HB := Aside0.mk (Below.refl w.heap.size w)
  have H : (offertoryref09_Shift.l0 k a1 0 a0_0 a0_1 a0_2 a0_3 a0_4 a0_5 a0_6 a0_7) = some (r1, r2, r3, r4, r5, r6, r7, r8) := h
  clear h
  have H' := Aside0.mk H
  clear H
  go_enter Try.func14, Try.ntmps14
  go_wp2_with (first | ((with_reducible refine gate_dst (N := 2) rfl ?_); refine box_event ?hg (N := 2) ?hd (cs := #[.int .u32 a0_0, .int .u32 a0_1, .int .u32 a0_2, .int .u32 a0_3, .int .u32 a0_4, .int .u32 a0_5, .int .u32 a0_6, .int .u32 a0_7]) (t := 41) ?hr ?_; (case hd => rfl); (case hg => rfl); (case hr => first | (go_simp; done) | (go_simp; rfl)); intro gb177 hg w3 hbox hb; have n0_ := Aside0.mk (below_step (by repeat (first | (with_reducible first | exact HB.out | apply below_alloc | apply pw_below_drewN | apply below_drew1) | exact HB.out)) hb); have n1_ := Aside0.mk (hbox); have n2_ := Aside0.mk ((by rw [hg]; exact (below_size (by repeat (first | (with_reducible first | exact HB.out | apply below_alloc | apply pw_below_drewN | apply below_drew1) | exact HB.out))) : w.heap.size ≤ gb177)); have n3_ := Aside0.mk ((by rw [hg]; exact (below_size (by repeat (first | (with_reducible first | exact HB.out | apply below_alloc | apply pw_below_drewN | apply below_drew1) | exact HB.out))) : w.heap.size ≤ gb177)); clear HB; have HB := n0_; have BK177 := n1_; have GW177 := n2_; have GE177 := n3_; clear n0_ n1_ n2_ n3_; clear hb hbox hg) | ((with_reducible refine gate_dst (N := 4) rfl ?_); refine box_event ?hg (N := 4) ?hd (cs := #[.int .u32 0, .int .u32 0, .int .u32 0, .int .u32 0, .int .u32 0, .int .u32 0, .int .u32 0, .int .u32 0]) (t := 41) ?hr ?_; (case hd => rfl); (case hg => rfl); (case hr => first | (go_simp; done) | (go_simp; rfl)); intro gb178 hg w4 hbox hb; have n0_ := Aside0.mk (blk_below (g := gb177) (o := .cells #[.int .u32 a0_0, .int .u32 a0_1, .int .u32 a0_2, .int .u32 a0_3, .int .u32 a0_4, .int .u32 a0_5, .int .u32 a0_6, .int .u32 a0_7] 41 (0, 0)) (by (with_reducible repeat (first | refine blk_drewN ?_ _ | refine blk_drew ?_ | refine blk_alloc ?_ _)); exact BK177.out) hb); have n1_ := Aside0.mk (below_step (by repeat (first | (with_reducible first | exact HB.out | apply below_alloc | apply pw_below_drewN | apply below_drew1 | refine below_set ?_ GE177.out) | exact HB.out)) hb); have n2_ := Aside0.mk (hbox); have n3_ := Aside0.mk ((by rw [hg]; exact (below_size (by repeat (first | (with_reducible first | exact HB.out | apply below_alloc | apply pw_below_drewN | apply below_drew1 | refine below_set ?_ GE177.out) | exact HB.out))) : w.heap.size ≤ gb178)); have n4_ := Aside0.mk ((by rw [hg]; exact (below_size (by repeat (first | (with_reducible first | exact HB.out | apply below_alloc | apply pw_below_drewN | apply below_drew1 | refine below_set ?_ GE177.out) | exact HB.out))) : w.heap.size ≤ gb178)); have n5_ := Aside0.mk ((by rw [hg]; exact Nat.ne_of_lt (blk_lt (g := gb177) (o := .cells #[.int .u32 a0_0, .int .u32 a0_1, .int .u32 a0_2, .int .u32 a0_3, .int .u32 a0_4, .int .u32 a0_5, .int .u32 a0_6, .int .u32 a0_7] 41 (0, 0)) (by (with_reducible repeat (first | refine blk_drewN ?_ _ | refine blk_drew ?_ | refine blk_alloc ?_ _)); exact BK177.out)) : gb177 ≠ gb178)); have n6_ := Aside0.mk ((by rw [hg]; exact Nat.ne_of_gt (blk_lt (g := gb177) (o := .cells #[.int .u32 a0_0, .int .u32 a0_1, .int .u32 a0_2, .int .u32 a0_3, .int .u32 a0_4, .int .u32 a0_5, .int .u32 a0_6, .int .u32 a0_7] 41 (0, 0)) (by (with_reducible repeat (first | refine blk_drewN ?_ _ | refine blk_drew ?_ | refine blk_alloc ?_ _)); exact BK177.out)) : gb178 ≠ gb177)); clear BK177; clear HB; have BK177 := n0_; have HB := n1_; have BK178 := n2_; have GW178 := n3_; have GE178 := n4_; have NB177_178 := n5_; have NB178_177 := n6_; clear n0_ n1_ n2_ n3_ n4_ n5_ n6_; clear hb hbox hg))
  go_loopg [5] k (fun kq v5 w' => ∃ (x5_1 : Int) (x178000_1 : Int) (x178001_1 : Int) (x178002_1 : Int) (x178003_1 : Int) (x178004_1 : Int) (x178005_1 : Int) (x178006_1 : Int) (x178007_1 : Int), v5 = .int .i64 x5_1 ∧ Aside0 (offertoryref09_Shift.l0 kq a1 x5_1 x178000_1 x178001_1 x178002_1 x178003_1 x178004_1 x178005_1 x178006_1 x178007_1 = some (r1, r2, r3, r4, r5, r6, r7, r8)) ∧ Aside0 (kq ≤ k) ∧ Aside0 (w'.heap[gb177]? = some (.cells #[.int .u32 x178000_1, .int .u32 x178001_1, .int .u32 x178002_1, .int .u32 x178003_1, .int .u32 x178004_1, .int .u32 x178005_1, .int .u32 x178006_1, .int .u32 x178007_1] 41 (0, 0))) ∧ Aside0 (w'.heap[gb178]? = some (.cells #[.int .u32 0, .int .u32 0, .int .u32 0, .int .u32 0, .int .u32 0, .int .u32 0, .int .u32 0, .int .u32 0] 41 (0, 0))) ∧ Aside0 (Below w.heap.size w w'))
  case atStart => exact ⟨(0), (a0_0), (a0_1), (a0_2), (a0_3), (a0_4), (a0_5), (a0_6), (a0_7), (by first | rfl | (simp; done) | (simp [*]; done)), H', ⟨Nat.le_refl _⟩, ⟨by (with_reducible repeat (first | refine blk_drewN ?_ _ | refine blk_drew ?_ | refine blk_alloc ?_ _)); exact BK177.out⟩, ⟨by (with_reducible repeat (first | refine blk_drewN ?_ _ | refine blk_drew ?_ | refine blk_alloc ?_ _)); exact BK178.out⟩, ⟨by repeat (first | (with_reducible first | exact HB.out | apply below_alloc | apply pw_below_drewN | apply below_drew1 | refine below_set ?_ GE177.out | refine below_set ?_ GE178.out) | exact HB.out)⟩⟩
  case round =>
    clear H'
    try clear c1
    try clear p2
    obtain ⟨x5_1, x178000_1, x178001_1, x178002_1, x178003_1, x178004_1, x178005_1, x178006_1, x178007_1, rfl, HA, HK1, BK177, BK178, HB⟩ := hrel
    cases gk with
    | zero => exact absurd HA.out (by simp [offertoryref09_Shift.l0])
    | succ k1 =>
      have H := HA.out
      clear HA
      simp only [offertoryref09_Shift.l0] at H
      by_cases c5 : x5_1 < a1
      · rw [if_pos c5] at H
        have c5b0 : decide (x5_1 < a1) = true := decide_eq_true c5
        clear c5
        by_cases c6 : x5_1 < 128
        · rw [if_pos c6] at H
          have c6b0 : decide (x5_1 < 128) = true := decide_eq_true c6
          clear c6
          replace H := Option.bind_eq_some_iff.mp H
          obtain ⟨⟨t179, t180, t181, t182, t183, t184, t185, t186⟩, A70, H⟩ := H
          replace H : (offertoryref09_Shift.l0 k1 a1 (wrap64 (x5_1 + 1)) t179 t180 t181 t182 t183 t184 t185 t186) = some (r1, r2, r3, r4, r5, r6, r7, r8) := H
          have A7 := Aside0.mk A70
          clear A70
          have H' := Aside0.mk H
          clear H
          have hnb8 := NB177_178.out
          have hnc8 := NB178_177.out
          have hcz9_0 : wr.cell? ⟨gb177, 0, none⟩ = some (.int .u32 x178000_1) := (blk_cell BK177.out 0).trans rfl
          have hcz9_1 : wr.cell? ⟨gb177, 1, none⟩ = some (.int .u32 x178001_1) := (blk_cell BK177.out 1).trans rfl
          have hcz9_2 : wr.cell? ⟨gb177, 2, none⟩ = some (.int .u32 x178002_1) := (blk_cell BK177.out 2).trans rfl
          have hcz9_3 : wr.cell? ⟨gb177, 3, none⟩ = some (.int .u32 x178003_1) := (blk_cell BK177.out 3).trans rfl
          have hcz9_4 : wr.cell? ⟨gb177, 4, none⟩ = some (.int .u32 x178004_1) := (blk_cell BK177.out 4).trans rfl
          have hcz9_5 : wr.cell? ⟨gb177, 5, none⟩ = some (.int .u32 x178005_1) := (blk_cell BK177.out 5).trans rfl
          have hcz9_6 : wr.cell? ⟨gb177, 6, none⟩ = some (.int .u32 x178006_1) := (blk_cell BK177.out 6).trans rfl
          have hcz9_7 : wr.cell? ⟨gb177, 7, none⟩ = some (.int .u32 x178007_1) := (blk_cell BK177.out 7).trans rfl
          have hfz9_0 := blk_frozen BK177.out 0
          have hfz9_1 := blk_frozen BK177.out 1
          have hfz9_2 := blk_frozen BK177.out 2
          have hfz9_3 := blk_frozen BK177.out 3
          have hfz9_4 := blk_frozen BK177.out 4
          have hfz9_5 := blk_frozen BK177.out 5
          have hfz9_6 := blk_frozen BK177.out 6
          have hfz9_7 := blk_frozen BK177.out 7
          go_wp2_with (first | ((with_reducible refine gate_callee (f := 16) rfl ?_); refine goesL_ (some 17) rfl rfl Try.func16 (by kernel_rfl) rfl #[.agg #[.int .u32 x178000_1, .int .u32 x178001_1, .int .u32 x178002_1, .int .u32 x178003_1, .int .u32 x178004_1, .int .u32 x178005_1, .int .u32 x178006_1, .int .u32 x178007_1], .agg #[.int .u32 x178000_1, .int .u32 x178001_1, .int .u32 x178002_1, .int .u32 x178003_1, .int .u32 x178004_1, .int .u32 x178005_1, .int .u32 x178006_1, .int .u32 x178007_1]] rfl (by (try simp only [List.map_toArray, List.map_cons, List.map_nil]); first | done | rfl | (simp only [List.length_drop, List.length_take]; rfl)) ?_; (with_reducible refine (offertoryref09_Add.calls x178000_1 x178001_1 x178002_1 x178003_1 x178004_1 x178005_1 x178006_1 x178007_1 x178000_1 x178001_1 x178002_1 x178003_1 x178004_1 x178005_1 x178006_1 x178007_1 t179 t180 t181 t182 t183 t184 t185 t186 _ A7.out).mono ?_); rintro e w10 ⟨rfl, hb⟩; refine ⟨_, rfl, ?_⟩; have n0_ := Aside0.mk (blk_below (g := gb177) (o := .cells #[.int .u32 x178000_1, .int .u32 x178001_1, .int .u32 x178002_1, .int .u32 x178003_1, .int .u32 x178004_1, .int .u32 x178005_1, .int .u32 x178006_1, .int .u32 x178007_1] 41 (0, 0)) (by (with_reducible repeat (first | refine blk_drewN ?_ _ | refine blk_drew ?_ | refine blk_alloc ?_ _)); exact BK177.out) hb); have n1_ := Aside0.mk (blk_below (g := gb178) (o := .cells #[.int .u32 0, .int .u32 0, .int .u32 0, .int .u32 0, .int .u32 0, .int .u32 0, .int .u32 0, .int .u32 0] 41 (0, 0)) (by (with_reducible repeat (first | refine blk_drewN ?_ _ | refine blk_drew ?_ | refine blk_alloc ?_ _)); exact BK178.out) hb); have n2_ := Aside0.mk (below_step (by repeat (first | (with_reducible first | exact HB.out | apply below_alloc | apply pw_below_drewN | apply below_drew1 | refine below_set ?_ GE177.out | refine below_set ?_ GE178.out) | exact HB.out)) hb); clear BK177; clear BK178; clear HB; have BK177 := n0_; have BK178 := n1_; have HB := n2_; clear n0_ n1_ n2_; (try clear hb); (try clear hb2); (try clear hk); (try clear hi); have hcz11_0 : w10.cell? ⟨gb177, 0, none⟩ = some (.int .u32 x178000_1) := (blk_cell BK177.out 0).trans rfl; have hcz11_1 : w10.cell? ⟨gb177, 1, none⟩ = some (.int .u32 x178001_1) := (blk_cell BK177.out 1).trans rfl; have hcz11_2 : w10.cell? ⟨gb177, 2, none⟩ = some (.int .u32 x178002_1) := (blk_cell BK177.out 2).trans rfl; have hcz11_3 : w10.cell? ⟨gb177, 3, none⟩ = some (.int .u32 x178003_1) := (blk_cell BK177.out 3).trans rfl; have hcz11_4 : w10.cell? ⟨gb177, 4, none⟩ = some (.int .u32 x178004_1) := (blk_cell BK177.out 4).trans rfl; have hcz11_5 : w10.cell? ⟨gb177, 5, none⟩ = some (.int .u32 x178005_1) := (blk_cell BK177.out 5).trans rfl; have hcz11_6 : w10.cell? ⟨gb177, 6, none⟩ = some (.int .u32 x178006_1) := (blk_cell BK177.out 6).trans rfl; have hcz11_7 : w10.cell? ⟨gb177, 7, none⟩ = some (.int .u32 x178007_1) := (blk_cell BK177.out 7).trans rfl; have hfz11_0 := blk_frozen BK177.out 0; have hfz11_1 := blk_frozen BK177.out 1; have hfz11_2 := blk_frozen BK177.out 2; have hfz11_3 := blk_frozen BK177.out 3; have hfz11_4 := blk_frozen BK177.out 4; have hfz11_5 := blk_frozen BK177.out 5; have hfz11_6 := blk_frozen BK177.out 6; have hfz11_7 := blk_frozen BK177.out 7))
          go_roundg k1
          case measure => have := HK1.out; omega
          case rel => exact ⟨(wrap64 (x5_1 + 1)), (t179), (t180), (t181), (t182), (t183), (t184), (t185), (t186), (by first | rfl | (simp; done) | (simp [*]; done)), H', ⟨by have := HK1.out; omega⟩, ⟨by (with_reducible repeat (first | refine blk_drewN ?_ _ | refine blk_drew ?_ | refine blk_alloc ?_ _)); refine blk_put (cs := #[.int .u32 t179, .int .u32 t180, .int .u32 t181, .int .u32 t182, .int .u32 t183, .int .u32 t184, .int .u32 t185, .int .u32 x178007_1]) ?_ 7 _ rfl; (with_reducible repeat (first | refine blk_drewN ?_ _ | refine blk_drew ?_ | refine blk_alloc ?_ _)); refine blk_put (cs := #[.int .u32 t179, .int .u32 t180, .int .u32 t181, .int .u32 t182, .int .u32 t183, .int .u32 t184, .int .u32 x178006_1, .int .u32 x178007_1]) ?_ 6 _ rfl; (with_reducible repeat (first | refine blk_drewN ?_ _ | refine blk_drew ?_ | refine blk_alloc ?_ _)); refine blk_put (cs := #[.int .u32 t179, .int .u32 t180, .int .u32 t181, .int .u32 t182, .int .u32 t183, .int .u32 x178005_1, .int .u32 x178006_1, .int .u32 x178007_1]) ?_ 5 _ rfl; (with_reducible repeat (first | refine blk_drewN ?_ _ | refine blk_drew ?_ | refine blk_alloc ?_ _)); refine blk_put (cs := #[.int .u32 t179, .int .u32 t180, .int .u32 t181, .int .u32 t182, .int .u32 x178004_1, .int .u32 x178005_1, .int .u32 x178006_1, .int .u32 x178007_1]) ?_ 4 _ rfl; (with_reducible repeat (first | refine blk_drewN ?_ _ | refine blk_drew ?_ | refine blk_alloc ?_ _)); refine blk_put (cs := #[.int .u32 t179, .int .u32 t180, .int .u32 t181, .int .u32 x178003_1, .int .u32 x178004_1, .int .u32 x178005_1, .int .u32 x178006_1, .int .u32 x178007_1]) ?_ 3 _ rfl; (with_reducible repeat (first | refine blk_drewN ?_ _ | refine blk_drew ?_ | refine blk_alloc ?_ _)); refine blk_put (cs := #[.int .u32 t179, .int .u32 t180, .int .u32 x178002_1, .int .u32 x178003_1, .int .u32 x178004_1, .int .u32 x178005_1, .int .u32 x178006_1, .int .u32 x178007_1]) ?_ 2 _ rfl; (with_reducible repeat (first | refine blk_drewN ?_ _ | refine blk_drew ?_ | refine blk_alloc ?_ _)); refine blk_put (cs := #[.int .u32 t179, .int .u32 x178001_1, .int .u32 x178002_1, .int .u32 x178003_1, .int .u32 x178004_1, .int .u32 x178005_1, .int .u32 x178006_1, .int .u32 x178007_1]) ?_ 1 _ rfl; (with_reducible repeat (first | refine blk_drewN ?_ _ | refine blk_drew ?_ | refine blk_alloc ?_ _)); refine blk_put (cs := #[.int .u32 x178000_1, .int .u32 x178001_1, .int .u32 x178002_1, .int .u32 x178003_1, .int .u32 x178004_1, .int .u32 x178005_1, .int .u32 x178006_1, .int .u32 x178007_1]) ?_ 0 _ rfl; (with_reducible repeat (first | refine blk_drewN ?_ _ | refine blk_drew ?_ | refine blk_alloc ?_ _)); exact BK177.out⟩, ⟨by (with_reducible repeat (first | refine blk_drewN ?_ _ | refine blk_drew ?_ | refine blk_alloc ?_ _)); refine blk_far ?_ NB178_177.out _; (with_reducible repeat (first | refine blk_drewN ?_ _ | refine blk_drew ?_ | refine blk_alloc ?_ _)); refine blk_far ?_ NB178_177.out _; (with_reducible repeat (first | refine blk_drewN ?_ _ | refine blk_drew ?_ | refine blk_alloc ?_ _)); refine blk_far ?_ NB178_177.out _; (with_reducible repeat (first | refine blk_drewN ?_ _ | refine blk_drew ?_ | refine blk_alloc ?_ _)); refine blk_far ?_ NB178_177.out _; (with_reducible repeat (first | refine blk_drewN ?_ _ | refine blk_drew ?_ | refine blk_alloc ?_ _)); refine blk_far ?_ NB178_177.out _; (with_reducible repeat (first | refine blk_drewN ?_ _ | refine blk_drew ?_ | refine blk_alloc ?_ _)); refine blk_far ?_ NB178_177.out _; (with_reducible repeat (first | refine blk_drewN ?_ _ | refine blk_drew ?_ | refine blk_alloc ?_ _)); refine blk_far ?_ NB178_177.out _; (with_reducible repeat (first | refine blk_drewN ?_ _ | refine blk_drew ?_ | refine blk_alloc ?_ _)); refine blk_far ?_ NB178_177.out _; (with_reducible repeat (first | refine blk_drewN ?_ _ | refine blk_drew ?_ | refine blk_alloc ?_ _)); exact BK178.out⟩, ⟨by repeat (first | (with_reducible first | exact HB.out | apply below_alloc | apply pw_below_drewN | apply below_drew1 | refine below_set ?_ GE177.out | refine below_set ?_ GE178.out) | exact HB.out)⟩⟩
        · rw [if_neg c6] at H
          have c6b0 : decide (x5_1 < 128) = false := decide_eq_false c6
          clear c6
          simp only [Option.some.injEq, Prod.mk.injEq] at H
          obtain ⟨rfl, rfl, rfl, rfl, rfl, rfl, rfl, rfl⟩ := H
          have hnb12 := NB177_178.out
          have hnc12 := NB178_177.out
          have hcz13_0 : wr.cell? ⟨gb177, 0, none⟩ = some (.int .u32 x178000_1) := (blk_cell BK177.out 0).trans rfl
          have hcz13_1 : wr.cell? ⟨gb177, 1, none⟩ = some (.int .u32 x178001_1) := (blk_cell BK177.out 1).trans rfl
          have hcz13_2 : wr.cell? ⟨gb177, 2, none⟩ = some (.int .u32 x178002_1) := (blk_cell BK177.out 2).trans rfl
          have hcz13_3 : wr.cell? ⟨gb177, 3, none⟩ = some (.int .u32 x178003_1) := (blk_cell BK177.out 3).trans rfl
          have hcz13_4 : wr.cell? ⟨gb177, 4, none⟩ = some (.int .u32 x178004_1) := (blk_cell BK177.out 4).trans rfl
          have hcz13_5 : wr.cell? ⟨gb177, 5, none⟩ = some (.int .u32 x178005_1) := (blk_cell BK177.out 5).trans rfl
          have hcz13_6 : wr.cell? ⟨gb177, 6, none⟩ = some (.int .u32 x178006_1) := (blk_cell BK177.out 6).trans rfl
          have hcz13_7 : wr.cell? ⟨gb177, 7, none⟩ = some (.int .u32 x178007_1) := (blk_cell BK177.out 7).trans rfl
          have hfz13_0 := blk_frozen BK177.out 0
          have hfz13_1 := blk_frozen BK177.out 1
          have hfz13_2 := blk_frozen BK177.out 2
          have hfz13_3 := blk_frozen BK177.out 3
          have hfz13_4 := blk_frozen BK177.out 4
          have hfz13_5 := blk_frozen BK177.out 5
          have hfz13_6 := blk_frozen BK177.out 6
          have hfz13_7 := blk_frozen BK177.out 7
          have hcz14_0 : wr.cell? ⟨gb178, 0, none⟩ = some (.int .u32 0) := (blk_cell BK178.out 0).trans rfl
          have hcz14_1 : wr.cell? ⟨gb178, 1, none⟩ = some (.int .u32 0) := (blk_cell BK178.out 1).trans rfl
          have hcz14_2 : wr.cell? ⟨gb178, 2, none⟩ = some (.int .u32 0) := (blk_cell BK178.out 2).trans rfl
          have hcz14_3 : wr.cell? ⟨gb178, 3, none⟩ = some (.int .u32 0) := (blk_cell BK178.out 3).trans rfl
          have hcz14_4 : wr.cell? ⟨gb178, 4, none⟩ = some (.int .u32 0) := (blk_cell BK178.out 4).trans rfl
          have hcz14_5 : wr.cell? ⟨gb178, 5, none⟩ = some (.int .u32 0) := (blk_cell BK178.out 5).trans rfl
          have hcz14_6 : wr.cell? ⟨gb178, 6, none⟩ = some (.int .u32 0) := (blk_cell BK178.out 6).trans rfl
          have hcz14_7 : wr.cell? ⟨gb178, 7, none⟩ = some (.int .u32 0) := (blk_cell BK178.out 7).trans rfl
          have hfz14_0 := blk_frozen BK178.out 0
          have hfz14_1 := blk_frozen BK178.out 1
          have hfz14_2 := blk_frozen BK178.out 2
          have hfz14_3 := blk_frozen BK178.out 3
          have hfz14_4 := blk_frozen BK178.out 4
          have hfz14_5 := blk_frozen BK178.out 5
          have hfz14_6 := blk_frozen BK178.out 6
          have hfz14_7 := blk_frozen BK178.out 7
          go_wp2
          refine bodyPost_ret (results_cell_row rfl _ _ gb178 41 #[.int .u32 x178000_1, .int .u32 x178001_1, .int .u32 x178002_1, .int .u32 x178003_1, .int .u32 x178004_1, .int .u32 x178005_1, .int .u32 x178006_1, .int .u32 x178007_1] (0, 0) _ rfl (by (with_reducible repeat (first | refine blk_drewN ?_ _ | refine blk_drew ?_ | refine blk_alloc ?_ _)); refine blk_put (cs := #[.int .u32 x178000_1, .int .u32 x178001_1, .int .u32 x178002_1, .int .u32 x178003_1, .int .u32 x178004_1, .int .u32 x178005_1, .int .u32 x178006_1, .int .u32 0]) ?_ 7 _ rfl; (with_reducible repeat (first | refine blk_drewN ?_ _ | refine blk_drew ?_ | refine blk_alloc ?_ _)); refine blk_put (cs := #[.int .u32 x178000_1, .int .u32 x178001_1, .int .u32 x178002_1, .int .u32 x178003_1, .int .u32 x178004_1, .int .u32 x178005_1, .int .u32 0, .int .u32 0]) ?_ 6 _ rfl; (with_reducible repeat (first | refine blk_drewN ?_ _ | refine blk_drew ?_ | refine blk_alloc ?_ _)); refine blk_put (cs := #[.int .u32 x178000_1, .int .u32 x178001_1, .int .u32 x178002_1, .int .u32 x178003_1, .int .u32 x178004_1, .int .u32 0, .int .u32 0, .int .u32 0]) ?_ 5 _ rfl; (with_reducible repeat (first | refine blk_drewN ?_ _ | refine blk_drew ?_ | refine blk_alloc ?_ _)); refine blk_put (cs := #[.int .u32 x178000_1, .int .u32 x178001_1, .int .u32 x178002_1, .int .u32 x178003_1, .int .u32 0, .int .u32 0, .int .u32 0, .int .u32 0]) ?_ 4 _ rfl; (with_reducible repeat (first | refine blk_drewN ?_ _ | refine blk_drew ?_ | refine blk_alloc ?_ _)); refine blk_put (cs := #[.int .u32 x178000_1, .int .u32 x178001_1, .int .u32 x178002_1, .int .u32 0, .int .u32 0, .int .u32 0, .int .u32 0, .int .u32 0]) ?_ 3 _ rfl; (with_reducible repeat (first | refine blk_drewN ?_ _ | refine blk_drew ?_ | refine blk_alloc ?_ _)); refine blk_put (cs := #[.int .u32 x178000_1, .int .u32 x178001_1, .int .u32 0, .int .u32 0, .int .u32 0, .int .u32 0, .int .u32 0, .int .u32 0]) ?_ 2 _ rfl; (with_reducible repeat (first | refine blk_drewN ?_ _ | refine blk_drew ?_ | refine blk_alloc ?_ _)); refine blk_put (cs := #[.int .u32 x178000_1, .int .u32 0, .int .u32 0, .int .u32 0, .int .u32 0, .int .u32 0, .int .u32 0, .int .u32 0]) ?_ 1 _ rfl; (with_reducible repeat (first | refine blk_drewN ?_ _ | refine blk_drew ?_ | refine blk_alloc ?_ _)); refine blk_put (cs := #[.int .u32 0, .int .u32 0, .int .u32 0, .int .u32 0, .int .u32 0, .int .u32 0, .int .u32 0, .int .u32 0]) ?_ 0 _ rfl; (with_reducible repeat (first | refine blk_drewN ?_ _ | refine blk_drew ?_ | refine blk_alloc ?_ _)); exact BK178.out) Try.underlying41 rfl (by kernel_rfl)) rfl ?_
          exact ⟨by first | rfl | (simp [errW_none, errW_some] <;> rfl) | (simp [*, errW_none, errW_some] <;> rfl), by repeat (first | (with_reducible first | exact HB.out | apply below_alloc | apply pw_below_drewN | apply below_drew1 | refine below_set ?_ GE177.out | refine below_set ?_ GE178.out) | exact HB.out)⟩
      · rw [if_neg c5] at H
        have c5b0 : decide (x5_1 < a1) = false := decide_eq_false c5
        clear c5
        simp only [Option.some.injEq, Prod.mk.injEq] at H
        obtain ⟨rfl, rfl, rfl, rfl, rfl, rfl, rfl, rfl⟩ := H
        have hnb15 := NB177_178.out
        have hnc15 := NB178_177.out
        have hcz16_0 : wr.cell? ⟨gb177, 0, none⟩ = some (.int .u32 x178000_1) := (blk_cell BK177.out 0).trans rfl
        have hcz16_1 : wr.cell? ⟨gb177, 1, none⟩ = some (.int .u32 x178001_1) := (blk_cell BK177.out 1).trans rfl
        have hcz16_2 : wr.cell? ⟨gb177, 2, none⟩ = some (.int .u32 x178002_1) := (blk_cell BK177.out 2).trans rfl
        have hcz16_3 : wr.cell? ⟨gb177, 3, none⟩ = some (.int .u32 x178003_1) := (blk_cell BK177.out 3).trans rfl
        have hcz16_4 : wr.cell? ⟨gb177, 4, none⟩ = some (.int .u32 x178004_1) := (blk_cell BK177.out 4).trans rfl
        have hcz16_5 : wr.cell? ⟨gb177, 5, none⟩ = some (.int .u32 x178005_1) := (blk_cell BK177.out 5).trans rfl
        have hcz16_6 : wr.cell? ⟨gb177, 6, none⟩ = some (.int .u32 x178006_1) := (blk_cell BK177.out 6).trans rfl
        have hcz16_7 : wr.cell? ⟨gb177, 7, none⟩ = some (.int .u32 x178007_1) := (blk_cell BK177.out 7).trans rfl
        have hfz16_0 := blk_frozen BK177.out 0
        have hfz16_1 := blk_frozen BK177.out 1
        have hfz16_2 := blk_frozen BK177.out 2
        have hfz16_3 := blk_frozen BK177.out 3
        have hfz16_4 := blk_frozen BK177.out 4
        have hfz16_5 := blk_frozen BK177.out 5
        have hfz16_6 := blk_frozen BK177.out 6
        have hfz16_7 := blk_frozen BK177.out 7
        have hcz17_0 : wr.cell? ⟨gb178, 0, none⟩ = some (.int .u32 0) := (blk_cell BK178.out 0).trans rfl
        have hcz17_1 : wr.cell? ⟨gb178, 1, none⟩ = some (.int .u32 0) := (blk_cell BK178.out 1).trans rfl
        have hcz17_2 : wr.cell? ⟨gb178, 2, none⟩ = some (.int .u32 0) := (blk_cell BK178.out 2).trans rfl
        have hcz17_3 : wr.cell? ⟨gb178, 3, none⟩ = some (.int .u32 0) := (blk_cell BK178.out 3).trans rfl
        have hcz17_4 : wr.cell? ⟨gb178, 4, none⟩ = some (.int .u32 0) := (blk_cell BK178.out 4).trans rfl
        have hcz17_5 : wr.cell? ⟨gb178, 5, none⟩ = some (.int .u32 0) := (blk_cell BK178.out 5).trans rfl
        have hcz17_6 : wr.cell? ⟨gb178, 6, none⟩ = some (.int .u32 0) := (blk_cell BK178.out 6).trans rfl
        have hcz17_7 : wr.cell? ⟨gb178, 7, none⟩ = some (.int .u32 0) := (blk_cell BK178.out 7).trans rfl
        have hfz17_0 := blk_frozen BK178.out 0
        have hfz17_1 := blk_frozen BK178.out 1
        have hfz17_2 := blk_frozen BK178.out 2
        have hfz17_3 := blk_frozen BK178.out 3
        have hfz17_4 := blk_frozen BK178.out 4
        have hfz17_5 := blk_frozen BK178.out 5
        have hfz17_6 := blk_frozen BK178.out 6
        have hfz17_7 := blk_frozen BK178.out 7
        go_wp2
        refine bodyPost_ret (results_cell_row rfl _ _ gb178 41 #[.int .u32 x178000_1, .int .u32 x178001_1, .int .u32 x178002_1, .int .u32 x178003_1, .int .u32 x178004_1, .int .u32 x178005_1, .int .u32 x178006_1, .int .u32 x178007_1] (0, 0) _ rfl (by (with_reducible repeat (first | refine blk_drewN ?_ _ | refine blk_drew ?_ | refine blk_alloc ?_ _)); refine blk_put (cs := #[.int .u32 x178000_1, .int .u32 x178001_1, .int .u32 x178002_1, .int .u32 x178003_1, .int .u32 x178004_1, .int .u32 x178005_1, .int .u32 x178006_1, .int .u32 0]) ?_ 7 _ rfl; (with_reducible repeat (first | refine blk_drewN ?_ _ | refine blk_drew ?_ | refine blk_alloc ?_ _)); refine blk_put (cs := #[.int .u32 x178000_1, .int .u32 x178001_1, .int .u32 x178002_1, .int .u32 x178003_1, .int .u32 x178004_1, .int .u32 x178005_1, .int .u32 0, .int .u32 0]) ?_ 6 _ rfl; (with_reducible repeat (first | refine blk_drewN ?_ _ | refine blk_drew ?_ | refine blk_alloc ?_ _)); refine blk_put (cs := #[.int .u32 x178000_1, .int .u32 x178001_1, .int .u32 x178002_1, .int .u32 x178003_1, .int .u32 x178004_1, .int .u32 0, .int .u32 0, .int .u32 0]) ?_ 5 _ rfl; (with_reducible repeat (first | refine blk_drewN ?_ _ | refine blk_drew ?_ | refine blk_alloc ?_ _)); refine blk_put (cs := #[.int .u32 x178000_1, .int .u32 x178001_1, .int .u32 x178002_1, .int .u32 x178003_1, .int .u32 0, .int .u32 0, .int .u32 0, .int .u32 0]) ?_ 4 _ rfl; (with_reducible repeat (first | refine blk_drewN ?_ _ | refine blk_drew ?_ | refine blk_alloc ?_ _)); refine blk_put (cs := #[.int .u32 x178000_1, .int .u32 x178001_1, .int .u32 x178002_1, .int .u32 0, .int .u32 0, .int .u32 0, .int .u32 0, .int .u32 0]) ?_ 3 _ rfl; (with_reducible repeat (first | refine blk_drewN ?_ _ | refine blk_drew ?_ | refine blk_alloc ?_ _)); refine blk_put (cs := #[.int .u32 x178000_1, .int .u32 x178001_1, .int .u32 0, .int .u32 0, .int .u32 0, .int .u32 0, .int .u32 0, .int .u32 0]) ?_ 2 _ rfl; (with_reducible repeat (first | refine blk_drewN ?_ _ | refine blk_drew ?_ | refine blk_alloc ?_ _)); refine blk_put (cs := #[.int .u32 x178000_1, .int .u32 0, .int .u32 0, .int .u32 0, .int .u32 0, .int .u32 0, .int .u32 0, .int .u32 0]) ?_ 1 _ rfl; (with_reducible repeat (first | refine blk_drewN ?_ _ | refine blk_drew ?_ | refine blk_alloc ?_ _)); refine blk_put (cs := #[.int .u32 0, .int .u32 0, .int .u32 0, .int .u32 0, .int .u32 0, .int .u32 0, .int .u32 0, .int .u32 0]) ?_ 0 _ rfl; (with_reducible repeat (first | refine blk_drewN ?_ _ | refine blk_drew ?_ | refine blk_alloc ?_ _)); exact BK178.out) Try.underlying41 rfl (by kernel_rfl)) rfl ?_
        exact ⟨by first | rfl | (simp [errW_none, errW_some] <;> rfl) | (simp [*, errW_none, errW_some] <;> rfl), by repeat (first | (with_reducible first | exact HB.out | apply below_alloc | apply pw_below_drewN | apply below_drew1 | refine below_set ?_ GE177.out | refine below_set ?_ GE178.out) | exact HB.out)⟩

/-! ### offertoryref09_Signed: function 15 -/
def offertoryref09_Signed.f (a0_0 : Int) (a0_1 : Int) (a0_2 : Int) (a0_3 : Int) (a0_4 : Int) (a0_5 : Int) (a0_6 : Int) (a0_7 : Int) : Option (Int × Int × Int × Int × Int × Int × Int × Int × Bool) := if a0_7 ≥ 32768 then ((offertoryref09_Neg.f a0_0 a0_1 a0_2 a0_3 a0_4 a0_5 a0_6 a0_7).bind fun bt189 => (some (bt189.1, bt189.2.1, bt189.2.2.1, bt189.2.2.2.1, bt189.2.2.2.2.1, bt189.2.2.2.2.2.1, bt189.2.2.2.2.2.2.1, bt189.2.2.2.2.2.2.2, true))) else (some (a0_0, a0_1, a0_2, a0_3, a0_4, a0_5, a0_6, a0_7, false))
set_option maxHeartbeats 8000000 in
set_option maxRecDepth 100000 in
theorem offertoryref09_Signed.calls (a0_0 : Int) (a0_1 : Int) (a0_2 : Int) (a0_3 : Int) (a0_4 : Int) (a0_5 : Int) (a0_6 : Int) (a0_7 : Int) (r1 : Int) (r2 : Int) (r3 : Int) (r4 : Int) (r5 : Int) (r6 : Int) (r7 : Int) (r8 : Int) (r9 : Bool) (w : World) (h : offertoryref09_Signed.f a0_0 a0_1 a0_2 a0_3 a0_4 a0_5 a0_6 a0_7 = some (r1, r2, r3, r4, r5, r6, r7, r8, r9)) :
    Calls Try.prog 15 #[.agg #[.int .u32 a0_0, .int .u32 a0_1, .int .u32 a0_2, .int .u32 a0_3, .int .u32 a0_4, .int .u32 a0_5, .int .u32 a0_6, .int .u32 a0_7]] w fun e w' => e = .returned (.tuple #[.agg #[.int .u32 r1, .int .u32 r2, .int .u32 r3, .int .u32 r4, .int .u32 r5, .int .u32 r6, .int .u32 r7, .int .u32 r8], .bool r9]) ∧ Below w.heap.size w w' := by
  have hu41 := Try.underlying41
  have HB := Aside0.mk (Below.refl w.heap.size w)
  have H : (if a0_7 ≥ 32768 then ((offertoryref09_Neg.f a0_0 a0_1 a0_2 a0_3 a0_4 a0_5 a0_6 a0_7).bind fun bt189 => (some (bt189.1, bt189.2.1, bt189.2.2.1, bt189.2.2.2.1, bt189.2.2.2.2.1, bt189.2.2.2.2.2.1, bt189.2.2.2.2.2.2.1, bt189.2.2.2.2.2.2.2, true))) else (some (a0_0, a0_1, a0_2, a0_3, a0_4, a0_5, a0_6, a0_7, false))) = some (r1, r2, r3, r4, r5, r6, r7, r8, r9) := h
  clear h
  by_cases c2 : a0_7 ≥ 32768
  · rw [if_pos c2] at H
    have c2b0 : decide (32768 ≤ a0_7) = true := decide_eq_true c2
    clear c2
    replace H := Option.bind_eq_some_iff.mp H
    obtain ⟨⟨t189, t190, t191, t192, t193, t194, t195, t196⟩, A30, H⟩ := H
    replace H : (some (t189, t190, t191, t192, t193, t194, t195, t196, true)) = some (r1, r2, r3, r4, r5, r6, r7, r8, r9) := H
    have A3 := Aside0.mk A30
    clear A30
    simp only [Option.some.injEq, Prod.mk.injEq] at H
    obtain ⟨rfl, rfl, rfl, rfl, rfl, rfl, rfl, rfl, rfl⟩ := H
    go_enter Try.func15, Try.ntmps15
    go_wp2_with (first | ((with_reducible refine gate_dst (N := 1) rfl ?_); refine box_event ?hg (N := 1) ?hd (cs := #[.int .u32 a0_0, .int .u32 a0_1, .int .u32 a0_2, .int .u32 a0_3, .int .u32 a0_4, .int .u32 a0_5, .int .u32 a0_6, .int .u32 a0_7]) (t := 41) ?hr ?_; (case hd => rfl); (case hg => rfl); (case hr => first | (go_simp; done) | (go_simp; rfl)); intro gb187 hg w4 hbox hb; have n0_ := Aside0.mk (below_step (by repeat (first | (with_reducible first | exact HB.out | apply below_alloc | apply pw_below_drewN | apply below_drew1) | exact HB.out)) hb); have n1_ := Aside0.mk (hbox); have n2_ := Aside0.mk ((by rw [hg]; exact (below_size (by repeat (first | (with_reducible first | exact HB.out | apply below_alloc | apply pw_below_drewN | apply below_drew1) | exact HB.out))) : w.heap.size ≤ gb187)); have n3_ := Aside0.mk ((by rw [hg]; exact (below_size (by repeat (first | (with_reducible first | exact HB.out | apply below_alloc | apply pw_below_drewN | apply below_drew1) | exact HB.out))) : w.heap.size ≤ gb187)); clear HB; have HB := n0_; have BK187 := n1_; have GW187 := n2_; have GE187 := n3_; clear n0_ n1_ n2_ n3_; clear hb hbox hg) | ((with_reducible refine gate_dst (N := 2) rfl ?_); refine box_event ?hg (N := 2) ?hd (cs := #[.int .u32 0, .int .u32 0, .int .u32 0, .int .u32 0, .int .u32 0, .int .u32 0, .int .u32 0, .int .u32 0]) (t := 41) ?hr ?_; (case hd => rfl); (case hg => rfl); (case hr => first | (go_simp; done) | (go_simp; rfl)); intro gb188 hg w5 hbox hb; have n0_ := Aside0.mk (blk_below (g := gb187) (o := .cells #[.int .u32 a0_0, .int .u32 a0_1, .int .u32 a0_2, .int .u32 a0_3, .int .u32 a0_4, .int .u32 a0_5, .int .u32 a0_6, .int .u32 a0_7] 41 (0, 0)) (by (with_reducible repeat (first | refine blk_drewN ?_ _ | refine blk_drew ?_ | refine blk_alloc ?_ _)); exact BK187.out) hb); have n1_ := Aside0.mk (below_step (by repeat (first | (with_reducible first | exact HB.out | apply below_alloc | apply pw_below_drewN | apply below_drew1 | refine below_set ?_ GE187.out) | exact HB.out)) hb); have n2_ := Aside0.mk (hbox); have n3_ := Aside0.mk ((by rw [hg]; exact (below_size (by repeat (first | (with_reducible first | exact HB.out | apply below_alloc | apply pw_below_drewN | apply below_drew1 | refine below_set ?_ GE187.out) | exact HB.out))) : w.heap.size ≤ gb188)); have n4_ := Aside0.mk ((by rw [hg]; exact (below_size (by repeat (first | (with_reducible first | exact HB.out | apply below_alloc | apply pw_below_drewN | apply below_drew1 | refine below_set ?_ GE187.out) | exact HB.out))) : w.heap.size ≤ gb188)); have n5_ := Aside0.mk ((by rw [hg]; exact Nat.ne_of_lt (blk_lt (g := gb187) (o := .cells #[.int .u32 a0_0, .int .u32 a0_1, .int .u32 a0_2, .int .u32 a0_3, .int .u32 a0_4, .int .u32 a0_5, .int .u32 a0_6, .int .u32 a0_7] 41 (0, 0)) (by (with_reducible repeat (first | refine blk_drewN ?_ _ | refine blk_drew ?_ | refine blk_alloc ?_ _)); exact BK187.out)) : gb187 ≠ gb188)); have n6_ := Aside0.mk ((by rw [hg]; exact Nat.ne_of_gt (blk_lt (g := gb187) (o := .cells #[.int .u32 a0_0, .int .u32 a0_1, .int .u32 a0_2, .int .u32 a0_3, .int .u32 a0_4, .int .u32 a0_5, .int .u32 a0_6, .int .u32 a0_7] 41 (0, 0)) (by (with_reducible repeat (first | refine blk_drewN ?_ _ | refine blk_drew ?_ | refine blk_alloc ?_ _)); exact BK187.out)) : gb188 ≠ gb187)); clear BK187; clear HB; have BK187 := n0_; have HB := n1_; have BK188 := n2_; have GW188 := n3_; have GE188 := n4_; have NB187_188 := n5_; have NB188_187 := n6_; clear n0_ n1_ n2_ n3_ n4_ n5_ n6_; clear hb hbox hg; have hnb6 := NB187_188.out; have hnc6 := NB188_187.out; have hcz7_0 : w5.cell? ⟨gb187, 0, none⟩ = some (.int .u32 a0_0) := (blk_cell BK187.out 0).trans rfl; have hcz7_1 : w5.cell? ⟨gb187, 1, none⟩ = some (.int .u32 a0_1) := (blk_cell BK187.out 1).trans rfl; have hcz7_2 : w5.cell? ⟨gb187, 2, none⟩ = some (.int .u32 a0_2) := (blk_cell BK187.out 2).trans rfl; have hcz7_3 : w5.cell? ⟨gb187, 3, none⟩ = some (.int .u32 a0_3) := (blk_cell BK187.out 3).trans rfl; have hcz7_4 : w5.cell? ⟨gb187, 4, none⟩ = some (.int .u32 a0_4) := (blk_cell BK187.out 4).trans rfl; have hcz7_5 : w5.cell? ⟨gb187, 5, none⟩ = some (.int .u32 a0_5) := (blk_cell BK187.out 5).trans rfl; have hcz7_6 : w5.cell? ⟨gb187, 6, none⟩ = some (.int .u32 a0_6) := (blk_cell BK187.out 6).trans rfl; have hcz7_7 : w5.cell? ⟨gb187, 7, none⟩ = some (.int .u32 a0_7) := (blk_cell BK187.out 7).trans rfl; have hfz7_0 := blk_frozen BK187.out 0; have hfz7_1 := blk_frozen BK187.out 1; have hfz7_2 := blk_frozen BK187.out 2; have hfz7_3 := blk_frozen BK187.out 3; have hfz7_4 := blk_frozen BK187.out 4; have hfz7_5 := blk_frozen BK187.out 5; have hfz7_6 := blk_frozen BK187.out 6; have hfz7_7 := blk_frozen BK187.out 7) | ((with_reducible refine gate_callee (f := 13) rfl ?_); refine goesL_ (some 8) rfl rfl Try.func13 (by kernel_rfl) rfl #[.agg #[.int .u32 a0_0, .int .u32 a0_1, .int .u32 a0_2, .int .u32 a0_3, .int .u32 a0_4, .int .u32 a0_5, .int .u32 a0_6, .int .u32 a0_7]] rfl (by (try simp only [List.map_toArray, List.map_cons, List.map_nil]); first | done | rfl | (simp only [List.length_drop, List.length_take]; rfl)) ?_; (with_reducible refine (offertoryref09_Neg.calls a0_0 a0_1 a0_2 a0_3 a0_4 a0_5 a0_6 a0_7 t189 t190 t191 t192 t193 t194 t195 t196 _ A3.out).mono ?_); rintro e w8 ⟨rfl, hb⟩; refine ⟨_, rfl, ?_⟩; have n0_ := Aside0.mk (blk_below (g := gb187) (o := .cells #[.int .u32 a0_0, .int .u32 a0_1, .int .u32 a0_2, .int .u32 a0_3, .int .u32 a0_4, .int .u32 a0_5, .int .u32 a0_6, .int .u32 a0_7] 41 (0, 0)) (by (with_reducible repeat (first | refine blk_drewN ?_ _ | refine blk_drew ?_ | refine blk_alloc ?_ _)); exact BK187.out) hb); have n1_ := Aside0.mk (blk_below (g := gb188) (o := .cells #[.int .u32 0, .int .u32 0, .int .u32 0, .int .u32 0, .int .u32 0, .int .u32 0, .int .u32 0, .int .u32 0] 41 (0, 0)) (by (with_reducible repeat (first | refine blk_drewN ?_ _ | refine blk_drew ?_ | refine blk_alloc ?_ _)); exact BK188.out) hb); have n2_ := Aside0.mk (below_step (by repeat (first | (with_reducible first | exact HB.out | apply below_alloc | apply pw_below_drewN | apply below_drew1 | refine below_set ?_ GE187.out | refine below_set ?_ GE188.out) | exact HB.out)) hb); clear BK187; clear BK188; clear HB; have BK187 := n0_; have BK188 := n1_; have HB := n2_; clear n0_ n1_ n2_; (try clear hb); (try clear hb2); (try clear hk); (try clear hi); have hcz9_0 : w8.cell? ⟨gb188, 0, none⟩ = some (.int .u32 0) := (blk_cell BK188.out 0).trans rfl; have hcz9_1 : w8.cell? ⟨gb188, 1, none⟩ = some (.int .u32 0) := (blk_cell BK188.out 1).trans rfl; have hcz9_2 : w8.cell? ⟨gb188, 2, none⟩ = some (.int .u32 0) := (blk_cell BK188.out 2).trans rfl; have hcz9_3 : w8.cell? ⟨gb188, 3, none⟩ = some (.int .u32 0) := (blk_cell BK188.out 3).trans rfl; have hcz9_4 : w8.cell? ⟨gb188, 4, none⟩ = some (.int .u32 0) := (blk_cell BK188.out 4).trans rfl; have hcz9_5 : w8.cell? ⟨gb188, 5, none⟩ = some (.int .u32 0) := (blk_cell BK188.out 5).trans rfl; have hcz9_6 : w8.cell? ⟨gb188, 6, none⟩ = some (.int .u32 0) := (blk_cell BK188.out 6).trans rfl; have hcz9_7 : w8.cell? ⟨gb188, 7, none⟩ = some (.int .u32 0) := (blk_cell BK188.out 7).trans rfl; have hfz9_0 := blk_frozen BK188.out 0; have hfz9_1 := blk_frozen BK188.out 1; have hfz9_2 := blk_frozen BK188.out 2; have hfz9_3 := blk_frozen BK188.out 3; have hfz9_4 := blk_frozen BK188.out 4; have hfz9_5 := blk_frozen BK188.out 5; have hfz9_6 := blk_frozen BK188.out 6; have hfz9_7 := blk_frozen BK188.out 7))
    refine bodyPost_ret (results_ct rfl _ _ gb188 41 #[.int .u32 t189, .int .u32 t190, .int .u32 t191, .int .u32 t192, .int .u32 t193, .int .u32 t194, .int .u32 t195, .int .u32 t196] (0, 0) _ rfl (by (with_reducible repeat (first | refine blk_drewN ?_ _ | refine blk_drew ?_ | refine blk_alloc ?_ _)); refine blk_put (cs := #[.int .u32 t189, .int .u32 t190, .int .u32 t191, .int .u32 t192, .int .u32 t193, .int .u32 t194, .int .u32 t195, .int .u32 0]) ?_ 7 _ rfl; (with_reducible repeat (first | refine blk_drewN ?_ _ | refine blk_drew ?_ | refine blk_alloc ?_ _)); refine blk_put (cs := #[.int .u32 t189, .int .u32 t190, .int .u32 t191, .int .u32 t192, .int .u32 t193, .int .u32 t194, .int .u32 0, .int .u32 0]) ?_ 6 _ rfl; (with_reducible repeat (first | refine blk_drewN ?_ _ | refine blk_drew ?_ | refine blk_alloc ?_ _)); refine blk_put (cs := #[.int .u32 t189, .int .u32 t190, .int .u32 t191, .int .u32 t192, .int .u32 t193, .int .u32 0, .int .u32 0, .int .u32 0]) ?_ 5 _ rfl; (with_reducible repeat (first | refine blk_drewN ?_ _ | refine blk_drew ?_ | refine blk_alloc ?_ _)); refine blk_put (cs := #[.int .u32 t189, .int .u32 t190, .int .u32 t191, .int .u32 t192, .int .u32 0, .int .u32 0, .int .u32 0, .int .u32 0]) ?_ 4 _ rfl; (with_reducible repeat (first | refine blk_drewN ?_ _ | refine blk_drew ?_ | refine blk_alloc ?_ _)); refine blk_put (cs := #[.int .u32 t189, .int .u32 t190, .int .u32 t191, .int .u32 0, .int .u32 0, .int .u32 0, .int .u32 0, .int .u32 0]) ?_ 3 _ rfl; (with_reducible repeat (first | refine blk_drewN ?_ _ | refine blk_drew ?_ | refine blk_alloc ?_ _)); refine blk_put (cs := #[.int .u32 t189, .int .u32 t190, .int .u32 0, .int .u32 0, .int .u32 0, .int .u32 0, .int .u32 0, .int .u32 0]) ?_ 2 _ rfl; (with_reducible repeat (first | refine blk_drewN ?_ _ | refine blk_drew ?_ | refine blk_alloc ?_ _)); refine blk_put (cs := #[.int .u32 t189, .int .u32 0, .int .u32 0, .int .u32 0, .int .u32 0, .int .u32 0, .int .u32 0, .int .u32 0]) ?_ 1 _ rfl; (with_reducible repeat (first | refine blk_drewN ?_ _ | refine blk_drew ?_ | refine blk_alloc ?_ _)); refine blk_put (cs := #[.int .u32 0, .int .u32 0, .int .u32 0, .int .u32 0, .int .u32 0, .int .u32 0, .int .u32 0, .int .u32 0]) ?_ 0 _ rfl; (with_reducible repeat (first | refine blk_drewN ?_ _ | refine blk_drew ?_ | refine blk_alloc ?_ _)); exact BK188.out) Try.underlying41 rfl (by kernel_rfl)) rfl ?_
    exact ⟨by first | rfl | (simp [errW_none, errW_some] <;> rfl) | (simp [*, errW_none, errW_some] <;> rfl), by repeat (first | (with_reducible first | exact HB.out | apply below_alloc | apply pw_below_drewN | apply below_drew1 | refine below_set ?_ GE187.out | refine below_set ?_ GE188.out) | exact HB.out)⟩
  · rw [if_neg c2] at H
    have c2b0 : decide (32768 ≤ a0_7) = false := decide_eq_false c2
    clear c2
    simp only [Option.some.injEq, Prod.mk.injEq] at H
    obtain ⟨rfl, rfl, rfl, rfl, rfl, rfl, rfl, rfl, rfl⟩ := H
    go_enter Try.func15, Try.ntmps15
    go_wp2_with (first | ((with_reducible refine gate_dst (N := 1) rfl ?_); refine box_event ?hg (N := 1) ?hd (cs := #[.int .u32 a0_0, .int .u32 a0_1, .int .u32 a0_2, .int .u32 a0_3, .int .u32 a0_4, .int .u32 a0_5, .int .u32 a0_6, .int .u32 a0_7]) (t := 41) ?hr ?_; (case hd => rfl); (case hg => rfl); (case hr => first | (go_simp; done) | (go_simp; rfl)); intro gb187 hg w10 hbox hb; have n0_ := Aside0.mk (below_step (by repeat (first | (with_reducible first | exact HB.out | apply below_alloc | apply pw_below_drewN | apply below_drew1) | exact HB.out)) hb); have n1_ := Aside0.mk (hbox); have n2_ := Aside0.mk ((by rw [hg]; exact (below_size (by repeat (first | (with_reducible first | exact HB.out | apply below_alloc | apply pw_below_drewN | apply below_drew1) | exact HB.out))) : w.heap.size ≤ gb187)); have n3_ := Aside0.mk ((by rw [hg]; exact (below_size (by repeat (first | (with_reducible first | exact HB.out | apply below_alloc | apply pw_below_drewN | apply below_drew1) | exact HB.out))) : w.heap.size ≤ gb187)); clear HB; have HB := n0_; have BK187 := n1_; have GW187 := n2_; have GE187 := n3_; clear n0_ n1_ n2_ n3_; clear hb hbox hg) | ((with_reducible refine gate_dst (N := 2) rfl ?_); refine box_event ?hg (N := 2) ?hd (cs := #[.int .u32 0, .int .u32 0, .int .u32 0, .int .u32 0, .int .u32 0, .int .u32 0, .int .u32 0, .int .u32 0]) (t := 41) ?hr ?_; (case hd => rfl); (case hg => rfl); (case hr => first | (go_simp; done) | (go_simp; rfl)); intro gb188 hg w11 hbox hb; have n0_ := Aside0.mk (blk_below (g := gb187) (o := .cells #[.int .u32 a0_0, .int .u32 a0_1, .int .u32 a0_2, .int .u32 a0_3, .int .u32 a0_4, .int .u32 a0_5, .int .u32 a0_6, .int .u32 a0_7] 41 (0, 0)) (by (with_reducible repeat (first | refine blk_drewN ?_ _ | refine blk_drew ?_ | refine blk_alloc ?_ _)); exact BK187.out) hb); have n1_ := Aside0.mk (below_step (by repeat (first | (with_reducible first | exact HB.out | apply below_alloc | apply pw_below_drewN | apply below_drew1 | refine below_set ?_ GE187.out) | exact HB.out)) hb); have n2_ := Aside0.mk (hbox); have n3_ := Aside0.mk ((by rw [hg]; exact (below_size (by repeat (first | (with_reducible first | exact HB.out | apply below_alloc | apply pw_below_drewN | apply below_drew1 | refine below_set ?_ GE187.out) | exact HB.out))) : w.heap.size ≤ gb188)); have n4_ := Aside0.mk ((by rw [hg]; exact (below_size (by repeat (first | (with_reducible first | exact HB.out | apply below_alloc | apply pw_below_drewN | apply below_drew1 | refine below_set ?_ GE187.out) | exact HB.out))) : w.heap.size ≤ gb188)); have n5_ := Aside0.mk ((by rw [hg]; exact Nat.ne_of_lt (blk_lt (g := gb187) (o := .cells #[.int .u32 a0_0, .int .u32 a0_1, .int .u32 a0_2, .int .u32 a0_3, .int .u32 a0_4, .int .u32 a0_5, .int .u32 a0_6, .int .u32 a0_7] 41 (0, 0)) (by (with_reducible repeat (first | refine blk_drewN ?_ _ | refine blk_drew ?_ | refine blk_alloc ?_ _)); exact BK187.out)) : gb187 ≠ gb188)); have n6_ := Aside0.mk ((by rw [hg]; exact Nat.ne_of_gt (blk_lt (g := gb187) (o := .cells #[.int .u32 a0_0, .int .u32 a0_1, .int .u32 a0_2, .int .u32 a0_3, .int .u32 a0_4, .int .u32 a0_5, .int .u32 a0_6, .int .u32 a0_7] 41 (0, 0)) (by (with_reducible repeat (first | refine blk_drewN ?_ _ | refine blk_drew ?_ | refine blk_alloc ?_ _)); exact BK187.out)) : gb188 ≠ gb187)); clear BK187; clear HB; have BK187 := n0_; have HB := n1_; have BK188 := n2_; have GW188 := n3_; have GE188 := n4_; have NB187_188 := n5_; have NB188_187 := n6_; clear n0_ n1_ n2_ n3_ n4_ n5_ n6_; clear hb hbox hg; have hnb12 := NB187_188.out; have hnc12 := NB188_187.out; have hcz13_0 : w11.cell? ⟨gb187, 0, none⟩ = some (.int .u32 a0_0) := (blk_cell BK187.out 0).trans rfl; have hcz13_1 : w11.cell? ⟨gb187, 1, none⟩ = some (.int .u32 a0_1) := (blk_cell BK187.out 1).trans rfl; have hcz13_2 : w11.cell? ⟨gb187, 2, none⟩ = some (.int .u32 a0_2) := (blk_cell BK187.out 2).trans rfl; have hcz13_3 : w11.cell? ⟨gb187, 3, none⟩ = some (.int .u32 a0_3) := (blk_cell BK187.out 3).trans rfl; have hcz13_4 : w11.cell? ⟨gb187, 4, none⟩ = some (.int .u32 a0_4) := (blk_cell BK187.out 4).trans rfl; have hcz13_5 : w11.cell? ⟨gb187, 5, none⟩ = some (.int .u32 a0_5) := (blk_cell BK187.out 5).trans rfl; have hcz13_6 : w11.cell? ⟨gb187, 6, none⟩ = some (.int .u32 a0_6) := (blk_cell BK187.out 6).trans rfl; have hcz13_7 : w11.cell? ⟨gb187, 7, none⟩ = some (.int .u32 a0_7) := (blk_cell BK187.out 7).trans rfl; have hfz13_0 := blk_frozen BK187.out 0; have hfz13_1 := blk_frozen BK187.out 1; have hfz13_2 := blk_frozen BK187.out 2; have hfz13_3 := blk_frozen BK187.out 3; have hfz13_4 := blk_frozen BK187.out 4; have hfz13_5 := blk_frozen BK187.out 5; have hfz13_6 := blk_frozen BK187.out 6; have hfz13_7 := blk_frozen BK187.out 7; have hcz14_0 : w11.cell? ⟨gb188, 0, none⟩ = some (.int .u32 0) := (blk_cell BK188.out 0).trans rfl; have hcz14_1 : w11.cell? ⟨gb188, 1, none⟩ = some (.int .u32 0) := (blk_cell BK188.out 1).trans rfl; have hcz14_2 : w11.cell? ⟨gb188, 2, none⟩ = some (.int .u32 0) := (blk_cell BK188.out 2).trans rfl; have hcz14_3 : w11.cell? ⟨gb188, 3, none⟩ = some (.int .u32 0) := (blk_cell BK188.out 3).trans rfl; have hcz14_4 : w11.cell? ⟨gb188, 4, none⟩ = some (.int .u32 0) := (blk_cell BK188.out 4).trans rfl; have hcz14_5 : w11.cell? ⟨gb188, 5, none⟩ = some (.int .u32 0) := (blk_cell BK188.out 5).trans rfl; have hcz14_6 : w11.cell? ⟨gb188, 6, none⟩ = some (.int .u32 0) := (blk_cell BK188.out 6).trans rfl; have hcz14_7 : w11.cell? ⟨gb188, 7, none⟩ = some (.int .u32 0) := (blk_cell BK188.out 7).trans rfl; have hfz14_0 := blk_frozen BK188.out 0; have hfz14_1 := blk_frozen BK188.out 1; have hfz14_2 := blk_frozen BK188.out 2; have hfz14_3 := blk_frozen BK188.out 3; have hfz14_4 := blk_frozen BK188.out 4; have hfz14_5 := blk_frozen BK188.out 5; have hfz14_6 := blk_frozen BK188.out 6; have hfz14_7 := blk_frozen BK188.out 7))
    refine bodyPost_ret (results_ct rfl _ _ gb188 41 #[.int .u32 a0_0, .int .u32 a0_1, .int .u32 a0_2, .int .u32 a0_3, .int .u32 a0_4, .int .u32 a0_5, .int .u32 a0_6, .int .u32 a0_7] (0, 0) _ rfl (by (with_reducible repeat (first | refine blk_drewN ?_ _ | refine blk_drew ?_ | refine blk_alloc ?_ _)); refine blk_put (cs := #[.int .u32 a0_0, .int .u32 a0_1, .int .u32 a0_2, .int .u32 a0_3, .int .u32 a0_4, .int .u32 a0_5, .int .u32 a0_6, .int .u32 0]) ?_ 7 _ rfl; (with_reducible repeat (first | refine blk_drewN ?_ _ | refine blk_drew ?_ | refine blk_alloc ?_ _)); refine blk_put (cs := #[.int .u32 a0_0, .int .u32 a0_1, .int .u32 a0_2, .int .u32 a0_3, .int .u32 a0_4, .int .u32 a0_5, .int .u32 0, .int .u32 0]) ?_ 6 _ rfl; (with_reducible repeat (first | refine blk_drewN ?_ _ | refine blk_drew ?_ | refine blk_alloc ?_ _)); refine blk_put (cs := #[.int .u32 a0_0, .int .u32 a0_1, .int .u32 a0_2, .int .u32 a0_3, .int .u32 a0_4, .int .u32 0, .int .u32 0, .int .u32 0]) ?_ 5 _ rfl; (with_reducible repeat (first | refine blk_drewN ?_ _ | refine blk_drew ?_ | refine blk_alloc ?_ _)); refine blk_put (cs := #[.int .u32 a0_0, .int .u32 a0_1, .int .u32 a0_2, .int .u32 a0_3, .int .u32 0, .int .u32 0, .int .u32 0, .int .u32 0]) ?_ 4 _ rfl; (with_reducible repeat (first | refine blk_drewN ?_ _ | refine blk_drew ?_ | refine blk_alloc ?_ _)); refine blk_put (cs := #[.int .u32 a0_0, .int .u32 a0_1, .int .u32 a0_2, .int .u32 0, .int .u32 0, .int .u32 0, .int .u32 0, .int .u32 0]) ?_ 3 _ rfl; (with_reducible repeat (first | refine blk_drewN ?_ _ | refine blk_drew ?_ | refine blk_alloc ?_ _)); refine blk_put (cs := #[.int .u32 a0_0, .int .u32 a0_1, .int .u32 0, .int .u32 0, .int .u32 0, .int .u32 0, .int .u32 0, .int .u32 0]) ?_ 2 _ rfl; (with_reducible repeat (first | refine blk_drewN ?_ _ | refine blk_drew ?_ | refine blk_alloc ?_ _)); refine blk_put (cs := #[.int .u32 a0_0, .int .u32 0, .int .u32 0, .int .u32 0, .int .u32 0, .int .u32 0, .int .u32 0, .int .u32 0]) ?_ 1 _ rfl; (with_reducible repeat (first | refine blk_drewN ?_ _ | refine blk_drew ?_ | refine blk_alloc ?_ _)); refine blk_put (cs := #[.int .u32 0, .int .u32 0, .int .u32 0, .int .u32 0, .int .u32 0, .int .u32 0, .int .u32 0, .int .u32 0]) ?_ 0 _ rfl; (with_reducible repeat (first | refine blk_drewN ?_ _ | refine blk_drew ?_ | refine blk_alloc ?_ _)); exact BK188.out) Try.underlying41 rfl (by kernel_rfl)) rfl ?_
    exact ⟨by first | rfl | (simp [errW_none, errW_some] <;> rfl) | (simp [*, errW_none, errW_some] <;> rfl), by repeat (first | (with_reducible first | exact HB.out | apply below_alloc | apply pw_below_drewN | apply below_drew1 | refine below_set ?_ GE187.out | refine below_set ?_ GE188.out) | exact HB.out)⟩

end Go.Proofs.Ythokkogdkpmdcaa.PAll
