/- The Go functions that the laws reach, as Lean functions, and that each call comes to what its function says. Written by a program of this session (a turned copy of the kit's print). No condition beyond those that each theorem states. -/
import Derived.Test.YtaldennkcafceaaPAllx0
import Derived.Test.YtaldennkcafceaaPAllx1
import Derived.Test.YtaldennkcafceaaPAllx4
import Derived.Test.YtaldennkcafceaaPAllx5
import Derived.Test.YtaldennkcafceaaPAllx6
import Derived.Test.YtaldennkcafceaaPAllx7
namespace Go.Proofs.Ytaldennkcafceaa.PAll
open Go.RowKit Go.Proofs.YtaldennkcafceaaW.PrintWords Go.Proofs.YtaldennkcafceaaW.PrintLast Go.Proofs.YtaldennkcafceaaW.PrintMore
attribute [local go_sem] max2_int min2_int max_two min_two max_three min_three max_four min_four   -- for this text's walks alone
set_option linter.unusedVariables false
set_option linter.unusedSimpArgs false

attribute [local go_sem high] eqA25
/-! ### offertorylaw09_WideSums: function 6 -/
def offertorylaw09_WideSums.f (k : Nat) (a0_0 : Int) (a0_1 : Int) (a1_0 : Int) (a1_1 : Int) : Option (Bool) := (offertoryref09_Of.f a0_0 a0_1).bind fun bt231 => ((offertoryref09_Of.f a1_0 a1_1).bind fun bt239 => ((offertorylaw09_awake.f k).bind fun t249 => (if t249 = true then ((wide_Add.f a0_0 a0_1 a1_0 a1_1).bind fun bt250 => ((offertoryref09_Add.f bt231.1 bt231.2.1 bt231.2.2.1 bt231.2.2.2.1 bt231.2.2.2.2.1 bt231.2.2.2.2.2.1 bt231.2.2.2.2.2.2.1 bt231.2.2.2.2.2.2.2 bt239.1 bt239.2.1 bt239.2.2.1 bt239.2.2.2.1 bt239.2.2.2.2.1 bt239.2.2.2.2.2.1 bt239.2.2.2.2.2.2.1 bt239.2.2.2.2.2.2.2).bind fun bt252 => ((offertoryref09_Big_Wide.f bt252.1 bt252.2.1 bt252.2.2.1 bt252.2.2.2.1 bt252.2.2.2.2.1 bt252.2.2.2.2.2.1 bt252.2.2.2.2.2.2.1 bt252.2.2.2.2.2.2.2).bind fun bt260 => (if (bt250.1 == bt260.1 && (bt250.2 == bt260.2)) = true then ((wide_Sub.f a0_0 a0_1 a1_0 a1_1).bind fun bt262 => ((offertoryref09_Neg.f bt239.1 bt239.2.1 bt239.2.2.1 bt239.2.2.2.1 bt239.2.2.2.2.1 bt239.2.2.2.2.2.1 bt239.2.2.2.2.2.2.1 bt239.2.2.2.2.2.2.2).bind fun bt264 => ((offertoryref09_Add.f bt231.1 bt231.2.1 bt231.2.2.1 bt231.2.2.2.1 bt231.2.2.2.2.1 bt231.2.2.2.2.2.1 bt231.2.2.2.2.2.2.1 bt231.2.2.2.2.2.2.2 bt264.1 bt264.2.1 bt264.2.2.1 bt264.2.2.2.1 bt264.2.2.2.2.1 bt264.2.2.2.2.2.1 bt264.2.2.2.2.2.2.1 bt264.2.2.2.2.2.2.2).bind fun bt272 => ((offertoryref09_Big_Wide.f bt272.1 bt272.2.1 bt272.2.2.1 bt272.2.2.2.1 bt272.2.2.2.2.1 bt272.2.2.2.2.2.1 bt272.2.2.2.2.2.2.1 bt272.2.2.2.2.2.2.2).bind fun bt280 => (if (bt262.1 == bt280.1 && (bt262.2 == bt280.2)) = true then ((wide_Neg.f a0_0 a0_1).bind fun bt282 => ((offertoryref09_Neg.f bt231.1 bt231.2.1 bt231.2.2.1 bt231.2.2.2.1 bt231.2.2.2.2.1 bt231.2.2.2.2.2.1 bt231.2.2.2.2.2.2.1 bt231.2.2.2.2.2.2.2).bind fun bt284 => ((offertoryref09_Big_Wide.f bt284.1 bt284.2.1 bt284.2.2.1 bt284.2.2.2.1 bt284.2.2.2.2.1 bt284.2.2.2.2.2.1 bt284.2.2.2.2.2.2.1 bt284.2.2.2.2.2.2.2).bind fun bt292 => (some (bt282.1 == bt292.1 && (bt282.2 == bt292.2)))))) else (none)))))) else (none))))) else (none))))
theorem offertorylaw09_WideSums.mono : ∀ a0 a1 a2 a3 k, LeO (offertorylaw09_WideSums.f k a0 a1 a2 a3) (offertorylaw09_WideSums.f (k + 1) a0 a1 a2 a3) := by
 intro a0 a1 a2 a3 k
 unfold offertorylaw09_WideSums.f
 repeat' first
   | (with_reducible exact offertorylaw09_awake.mono _)
   | (with_reducible exact LeO.refl _)
   | (with_reducible exact LeO.none _)
   | (with_reducible refine LeO.ite ?_ ?_)
   | (with_reducible refine LeO.bind ?_ (fun _ => ?_))
   | exact offertorylaw09_awake.mono _
   | exact LeO.none _
   | refine LeO.ite ?_ ?_
   | refine LeO.bind ?_ (fun _ => ?_)
def offertorylaw09_WideSums.T1 : Bool × List (List Nat × List Nat) := (true, [([], []), ([0], [0]), ([], []), ([2, 1], [2]), ([], []), ([], []), ([4, 1, 3, 0, 1, 4, 5], [1, 4]), ([5, 3, 6, 0, 1, 2, 3, 4, 5, 6], [3, 5])])
def offertorylaw09_WideSums.B1 : List Nat := [0, 1, 0, 7, 0, 0, 63, 127]
theorem offertorylaw09_WideSums.tab1 : rtab .any (opsOf Try.f6 1) = offertorylaw09_WideSums.T1 := by kernel_rfl
theorem offertorylaw09_WideSums.bits1 : waitsOk offertorylaw09_WideSums.T1.2 offertorylaw09_WideSums.B1 = true := by kernel_rfl
def offertorylaw09_WideSums.T2 : Bool × List (List Nat × List Nat) := (true, [([], []), ([0, 0], [0]), ([1], [1]), ([1], [1]), ([2, 3, 1, 1], [1, 2, 3]), ([1], [1]), ([1], [1]), ([5, 6, 4, 1], [1, 5, 6]), ([7, 7, 1], [1, 7]), ([4, 8, 1], [1, 4, 8]), ([1, 9], [1, 9]), ([10, 8], [10]), ([11], [11]), ([11], [11]), ([12, 13, 11, 11], [11, 12, 13]), ([11], [11]), ([11], [11]), ([16, 14, 11], [11, 16]), ([15, 17, 17, 11], [11, 15, 17]), ([18, 18, 11], [11, 18]), ([14, 19, 11], [11, 14, 19]), ([11, 20], [11, 20]), ([21, 19], [21]), ([22], [22]), ([23, 22, 22], [22, 23]), ([22], [22]), ([25, 24, 22], [22, 25]), ([26, 26, 22], [22, 26]), ([24, 27, 22], [22, 24, 27]), ([22, 28], [22, 28]), ([29, 27, 0, 1, 2, 3, 4, 5, 6, 7, 8, 9, 10, 11, 12, 13, 14, 15, 16, 17, 18, 19, 20, 21, 22, 23, 24, 25, 26, 27, 28, 29], [29])])
def offertorylaw09_WideSums.B2 : List Nat := [0, 1, 3, 3, 15, 3, 3, 127, 255, 511, 1023, 2047, 4095, 4095, 16383, 4095, 4095, 98303, 262143, 524287, 1048575, 2097151, 4194303, 8388607, 16777215, 8388607, 67108863, 134217727, 268435455, 536870911, 1073741823]
theorem offertorylaw09_WideSums.tab2 : rtab .any (opsOf Try.f6 2) = offertorylaw09_WideSums.T2 := by kernel_rfl
theorem offertorylaw09_WideSums.bits2 : waitsOk offertorylaw09_WideSums.T2.2 offertorylaw09_WideSums.B2 = true := by kernel_rfl
set_option maxHeartbeats 8000000 in
set_option maxRecDepth 100000 in
theorem offertorylaw09_WideSums.calls (k : Nat) (a0_0 : Int) (a0_1 : Int) (a1_0 : Int) (a1_1 : Int) (r : Bool) (w : World) (h : offertorylaw09_WideSums.f k a0_0 a0_1 a1_0 a1_1 = some r) :
  Calls Try.prog 6 #[.agg #[.int .u64 a0_0, .int .u64 a0_1], .agg #[.int .u64 a1_0, .int .u64 a1_1]] w fun e w' => e = .returned (.bool r) ∧ Below w.heap.size w w' := by
 have hu25 := Try.underlying25
 have hu29 := Try.underlying29
 have HB := Aside0.mk (Below.refl w.heap.size w)
 have H : ((offertoryref09_Of.f a0_0 a0_1).bind fun bt231 => ((offertoryref09_Of.f a1_0 a1_1).bind fun bt239 => ((offertorylaw09_awake.f k).bind fun t249 => (if t249 = true then ((wide_Add.f a0_0 a0_1 a1_0 a1_1).bind fun bt250 => ((offertoryref09_Add.f bt231.1 bt231.2.1 bt231.2.2.1 bt231.2.2.2.1 bt231.2.2.2.2.1 bt231.2.2.2.2.2.1 bt231.2.2.2.2.2.2.1 bt231.2.2.2.2.2.2.2 bt239.1 bt239.2.1 bt239.2.2.1 bt239.2.2.2.1 bt239.2.2.2.2.1 bt239.2.2.2.2.2.1 bt239.2.2.2.2.2.2.1 bt239.2.2.2.2.2.2.2).bind fun bt252 => ((offertoryref09_Big_Wide.f bt252.1 bt252.2.1 bt252.2.2.1 bt252.2.2.2.1 bt252.2.2.2.2.1 bt252.2.2.2.2.2.1 bt252.2.2.2.2.2.2.1 bt252.2.2.2.2.2.2.2).bind fun bt260 => (if (bt250.1 == bt260.1 && (bt250.2 == bt260.2)) = true then ((wide_Sub.f a0_0 a0_1 a1_0 a1_1).bind fun bt262 => ((offertoryref09_Neg.f bt239.1 bt239.2.1 bt239.2.2.1 bt239.2.2.2.1 bt239.2.2.2.2.1 bt239.2.2.2.2.2.1 bt239.2.2.2.2.2.2.1 bt239.2.2.2.2.2.2.2).bind fun bt264 => ((offertoryref09_Add.f bt231.1 bt231.2.1 bt231.2.2.1 bt231.2.2.2.1 bt231.2.2.2.2.1 bt231.2.2.2.2.2.1 bt231.2.2.2.2.2.2.1 bt231.2.2.2.2.2.2.2 bt264.1 bt264.2.1 bt264.2.2.1 bt264.2.2.2.1 bt264.2.2.2.2.1 bt264.2.2.2.2.2.1 bt264.2.2.2.2.2.2.1 bt264.2.2.2.2.2.2.2).bind fun bt272 => ((offertoryref09_Big_Wide.f bt272.1 bt272.2.1 bt272.2.2.1 bt272.2.2.2.1 bt272.2.2.2.2.1 bt272.2.2.2.2.2.1 bt272.2.2.2.2.2.2.1 bt272.2.2.2.2.2.2.2).bind fun bt280 => (if (bt262.1 == bt280.1 && (bt262.2 == bt280.2)) = true then ((wide_Neg.f a0_0 a0_1).bind fun bt282 => ((offertoryref09_Neg.f bt231.1 bt231.2.1 bt231.2.2.1 bt231.2.2.2.1 bt231.2.2.2.2.1 bt231.2.2.2.2.2.1 bt231.2.2.2.2.2.2.1 bt231.2.2.2.2.2.2.2).bind fun bt284 => ((offertoryref09_Big_Wide.f bt284.1 bt284.2.1 bt284.2.2.1 bt284.2.2.2.1 bt284.2.2.2.2.1 bt284.2.2.2.2.2.1 bt284.2.2.2.2.2.2.1 bt284.2.2.2.2.2.2.2).bind fun bt292 => (some (bt282.1 == bt292.1 && (bt282.2 == bt292.2)))))) else (none)))))) else (none))))) else (none))))) = some r := h
 clear h
 replace H := Option.bind_eq_some_iff.mp H
 obtain ⟨⟨t231, t232, t233, t234, t235, t236, t237, t238⟩, A30, H⟩ := H
 replace H : ((offertoryref09_Of.f a1_0 a1_1).bind fun bt239 => ((offertorylaw09_awake.f k).bind fun t249 => (if t249 = true then ((wide_Add.f a0_0 a0_1 a1_0 a1_1).bind fun bt250 => ((offertoryref09_Add.f t231 t232 t233 t234 t235 t236 t237 t238 bt239.1 bt239.2.1 bt239.2.2.1 bt239.2.2.2.1 bt239.2.2.2.2.1 bt239.2.2.2.2.2.1 bt239.2.2.2.2.2.2.1 bt239.2.2.2.2.2.2.2).bind fun bt252 => ((offertoryref09_Big_Wide.f bt252.1 bt252.2.1 bt252.2.2.1 bt252.2.2.2.1 bt252.2.2.2.2.1 bt252.2.2.2.2.2.1 bt252.2.2.2.2.2.2.1 bt252.2.2.2.2.2.2.2).bind fun bt260 => (if (bt250.1 == bt260.1 && (bt250.2 == bt260.2)) = true then ((wide_Sub.f a0_0 a0_1 a1_0 a1_1).bind fun bt262 => ((offertoryref09_Neg.f bt239.1 bt239.2.1 bt239.2.2.1 bt239.2.2.2.1 bt239.2.2.2.2.1 bt239.2.2.2.2.2.1 bt239.2.2.2.2.2.2.1 bt239.2.2.2.2.2.2.2).bind fun bt264 => ((offertoryref09_Add.f t231 t232 t233 t234 t235 t236 t237 t238 bt264.1 bt264.2.1 bt264.2.2.1 bt264.2.2.2.1 bt264.2.2.2.2.1 bt264.2.2.2.2.2.1 bt264.2.2.2.2.2.2.1 bt264.2.2.2.2.2.2.2).bind fun bt272 => ((offertoryref09_Big_Wide.f bt272.1 bt272.2.1 bt272.2.2.1 bt272.2.2.2.1 bt272.2.2.2.2.1 bt272.2.2.2.2.2.1 bt272.2.2.2.2.2.2.1 bt272.2.2.2.2.2.2.2).bind fun bt280 => (if (bt262.1 == bt280.1 && (bt262.2 == bt280.2)) = true then ((wide_Neg.f a0_0 a0_1).bind fun bt282 => ((offertoryref09_Neg.f t231 t232 t233 t234 t235 t236 t237 t238).bind fun bt284 => ((offertoryref09_Big_Wide.f bt284.1 bt284.2.1 bt284.2.2.1 bt284.2.2.2.1 bt284.2.2.2.2.1 bt284.2.2.2.2.2.1 bt284.2.2.2.2.2.2.1 bt284.2.2.2.2.2.2.2).bind fun bt292 => (some (bt282.1 == bt292.1 && (bt282.2 == bt292.2)))))) else (none)))))) else (none))))) else (none)))) = some r := H
 have A3 := Aside0.mk A30
 clear A30
 replace H := Option.bind_eq_some_iff.mp H
 obtain ⟨⟨t239, t240, t241, t242, t243, t244, t245, t246⟩, A40, H⟩ := H
 replace H : ((offertorylaw09_awake.f k).bind fun t249 => (if t249 = true then ((wide_Add.f a0_0 a0_1 a1_0 a1_1).bind fun bt250 => ((offertoryref09_Add.f t231 t232 t233 t234 t235 t236 t237 t238 t239 t240 t241 t242 t243 t244 t245 t246).bind fun bt252 => ((offertoryref09_Big_Wide.f bt252.1 bt252.2.1 bt252.2.2.1 bt252.2.2.2.1 bt252.2.2.2.2.1 bt252.2.2.2.2.2.1 bt252.2.2.2.2.2.2.1 bt252.2.2.2.2.2.2.2).bind fun bt260 => (if (bt250.1 == bt260.1 && (bt250.2 == bt260.2)) = true then ((wide_Sub.f a0_0 a0_1 a1_0 a1_1).bind fun bt262 => ((offertoryref09_Neg.f t239 t240 t241 t242 t243 t244 t245 t246).bind fun bt264 => ((offertoryref09_Add.f t231 t232 t233 t234 t235 t236 t237 t238 bt264.1 bt264.2.1 bt264.2.2.1 bt264.2.2.2.1 bt264.2.2.2.2.1 bt264.2.2.2.2.2.1 bt264.2.2.2.2.2.2.1 bt264.2.2.2.2.2.2.2).bind fun bt272 => ((offertoryref09_Big_Wide.f bt272.1 bt272.2.1 bt272.2.2.1 bt272.2.2.2.1 bt272.2.2.2.2.1 bt272.2.2.2.2.2.1 bt272.2.2.2.2.2.2.1 bt272.2.2.2.2.2.2.2).bind fun bt280 => (if (bt262.1 == bt280.1 && (bt262.2 == bt280.2)) = true then ((wide_Neg.f a0_0 a0_1).bind fun bt282 => ((offertoryref09_Neg.f t231 t232 t233 t234 t235 t236 t237 t238).bind fun bt284 => ((offertoryref09_Big_Wide.f bt284.1 bt284.2.1 bt284.2.2.1 bt284.2.2.2.1 bt284.2.2.2.2.1 bt284.2.2.2.2.2.1 bt284.2.2.2.2.2.2.1 bt284.2.2.2.2.2.2.2).bind fun bt292 => (some (bt282.1 == bt292.1 && (bt282.2 == bt292.2)))))) else (none)))))) else (none))))) else (none))) = some r := H
 have A4 := Aside0.mk A40
 clear A40
 replace H := Option.bind_eq_some_iff.mp H
 obtain ⟨t249, A50, H⟩ := H
 replace H : (if t249 = true then ((wide_Add.f a0_0 a0_1 a1_0 a1_1).bind fun bt250 => ((offertoryref09_Add.f t231 t232 t233 t234 t235 t236 t237 t238 t239 t240 t241 t242 t243 t244 t245 t246).bind fun bt252 => ((offertoryref09_Big_Wide.f bt252.1 bt252.2.1 bt252.2.2.1 bt252.2.2.2.1 bt252.2.2.2.2.1 bt252.2.2.2.2.2.1 bt252.2.2.2.2.2.2.1 bt252.2.2.2.2.2.2.2).bind fun bt260 => (if (bt250.1 == bt260.1 && (bt250.2 == bt260.2)) = true then ((wide_Sub.f a0_0 a0_1 a1_0 a1_1).bind fun bt262 => ((offertoryref09_Neg.f t239 t240 t241 t242 t243 t244 t245 t246).bind fun bt264 => ((offertoryref09_Add.f t231 t232 t233 t234 t235 t236 t237 t238 bt264.1 bt264.2.1 bt264.2.2.1 bt264.2.2.2.1 bt264.2.2.2.2.1 bt264.2.2.2.2.2.1 bt264.2.2.2.2.2.2.1 bt264.2.2.2.2.2.2.2).bind fun bt272 => ((offertoryref09_Big_Wide.f bt272.1 bt272.2.1 bt272.2.2.1 bt272.2.2.2.1 bt272.2.2.2.2.1 bt272.2.2.2.2.2.1 bt272.2.2.2.2.2.2.1 bt272.2.2.2.2.2.2.2).bind fun bt280 => (if (bt262.1 == bt280.1 && (bt262.2 == bt280.2)) = true then ((wide_Neg.f a0_0 a0_1).bind fun bt282 => ((offertoryref09_Neg.f t231 t232 t233 t234 t235 t236 t237 t238).bind fun bt284 => ((offertoryref09_Big_Wide.f bt284.1 bt284.2.1 bt284.2.2.1 bt284.2.2.2.1 bt284.2.2.2.2.1 bt284.2.2.2.2.2.1 bt284.2.2.2.2.2.2.1 bt284.2.2.2.2.2.2.2).bind fun bt292 => (some (bt282.1 == bt292.1 && (bt282.2 == bt292.2)))))) else (none)))))) else (none))))) else (none)) = some r := H
 have A5 := Aside0.mk A50
 clear A50
 by_cases c6 : t249 = true
 ·
  subst c6
  have H1 : ((wide_Add.f a0_0 a0_1 a1_0 a1_1).bind fun bt250 => ((offertoryref09_Add.f t231 t232 t233 t234 t235 t236 t237 t238 t239 t240 t241 t242 t243 t244 t245 t246).bind fun bt252 => ((offertoryref09_Big_Wide.f bt252.1 bt252.2.1 bt252.2.2.1 bt252.2.2.2.1 bt252.2.2.2.2.1 bt252.2.2.2.2.2.1 bt252.2.2.2.2.2.2.1 bt252.2.2.2.2.2.2.2).bind fun bt260 => (if (bt250.1 == bt260.1 && (bt250.2 == bt260.2)) = true then ((wide_Sub.f a0_0 a0_1 a1_0 a1_1).bind fun bt262 => ((offertoryref09_Neg.f t239 t240 t241 t242 t243 t244 t245 t246).bind fun bt264 => ((offertoryref09_Add.f t231 t232 t233 t234 t235 t236 t237 t238 bt264.1 bt264.2.1 bt264.2.2.1 bt264.2.2.2.1 bt264.2.2.2.2.1 bt264.2.2.2.2.2.1 bt264.2.2.2.2.2.2.1 bt264.2.2.2.2.2.2.2).bind fun bt272 => ((offertoryref09_Big_Wide.f bt272.1 bt272.2.1 bt272.2.2.1 bt272.2.2.2.1 bt272.2.2.2.2.1 bt272.2.2.2.2.2.1 bt272.2.2.2.2.2.2.1 bt272.2.2.2.2.2.2.2).bind fun bt280 => (if (bt262.1 == bt280.1 && (bt262.2 == bt280.2)) = true then ((wide_Neg.f a0_0 a0_1).bind fun bt282 => ((offertoryref09_Neg.f t231 t232 t233 t234 t235 t236 t237 t238).bind fun bt284 => ((offertoryref09_Big_Wide.f bt284.1 bt284.2.1 bt284.2.2.1 bt284.2.2.2.1 bt284.2.2.2.2.1 bt284.2.2.2.2.2.1 bt284.2.2.2.2.2.2.1 bt284.2.2.2.2.2.2.2).bind fun bt292 => (some (bt282.1 == bt292.1 && (bt282.2 == bt292.2)))))) else (none)))))) else (none))))) = some r := by rw [if_pos rfl] at H; exact H
  clear H
  have H := H1
  clear H1
  replace H := Option.bind_eq_some_iff.mp H
  obtain ⟨⟨t250, t251⟩, A70, H⟩ := H
  replace H : ((offertoryref09_Add.f t231 t232 t233 t234 t235 t236 t237 t238 t239 t240 t241 t242 t243 t244 t245 t246).bind fun bt252 => ((offertoryref09_Big_Wide.f bt252.1 bt252.2.1 bt252.2.2.1 bt252.2.2.2.1 bt252.2.2.2.2.1 bt252.2.2.2.2.2.1 bt252.2.2.2.2.2.2.1 bt252.2.2.2.2.2.2.2).bind fun bt260 => (if (t250 == bt260.1 && (t251 == bt260.2)) = true then ((wide_Sub.f a0_0 a0_1 a1_0 a1_1).bind fun bt262 => ((offertoryref09_Neg.f t239 t240 t241 t242 t243 t244 t245 t246).bind fun bt264 => ((offertoryref09_Add.f t231 t232 t233 t234 t235 t236 t237 t238 bt264.1 bt264.2.1 bt264.2.2.1 bt264.2.2.2.1 bt264.2.2.2.2.1 bt264.2.2.2.2.2.1 bt264.2.2.2.2.2.2.1 bt264.2.2.2.2.2.2.2).bind fun bt272 => ((offertoryref09_Big_Wide.f bt272.1 bt272.2.1 bt272.2.2.1 bt272.2.2.2.1 bt272.2.2.2.2.1 bt272.2.2.2.2.2.1 bt272.2.2.2.2.2.2.1 bt272.2.2.2.2.2.2.2).bind fun bt280 => (if (bt262.1 == bt280.1 && (bt262.2 == bt280.2)) = true then ((wide_Neg.f a0_0 a0_1).bind fun bt282 => ((offertoryref09_Neg.f t231 t232 t233 t234 t235 t236 t237 t238).bind fun bt284 => ((offertoryref09_Big_Wide.f bt284.1 bt284.2.1 bt284.2.2.1 bt284.2.2.2.1 bt284.2.2.2.2.1 bt284.2.2.2.2.2.1 bt284.2.2.2.2.2.2.1 bt284.2.2.2.2.2.2.2).bind fun bt292 => (some (bt282.1 == bt292.1 && (bt282.2 == bt292.2)))))) else (none)))))) else (none)))) = some r := H
  have A7 := Aside0.mk A70
  clear A70
  replace H := Option.bind_eq_some_iff.mp H
  obtain ⟨⟨t252, t253, t254, t255, t256, t257, t258, t259⟩, A80, H⟩ := H
  replace H : ((offertoryref09_Big_Wide.f t252 t253 t254 t255 t256 t257 t258 t259).bind fun bt260 => (if (t250 == bt260.1 && (t251 == bt260.2)) = true then ((wide_Sub.f a0_0 a0_1 a1_0 a1_1).bind fun bt262 => ((offertoryref09_Neg.f t239 t240 t241 t242 t243 t244 t245 t246).bind fun bt264 => ((offertoryref09_Add.f t231 t232 t233 t234 t235 t236 t237 t238 bt264.1 bt264.2.1 bt264.2.2.1 bt264.2.2.2.1 bt264.2.2.2.2.1 bt264.2.2.2.2.2.1 bt264.2.2.2.2.2.2.1 bt264.2.2.2.2.2.2.2).bind fun bt272 => ((offertoryref09_Big_Wide.f bt272.1 bt272.2.1 bt272.2.2.1 bt272.2.2.2.1 bt272.2.2.2.2.1 bt272.2.2.2.2.2.1 bt272.2.2.2.2.2.2.1 bt272.2.2.2.2.2.2.2).bind fun bt280 => (if (bt262.1 == bt280.1 && (bt262.2 == bt280.2)) = true then ((wide_Neg.f a0_0 a0_1).bind fun bt282 => ((offertoryref09_Neg.f t231 t232 t233 t234 t235 t236 t237 t238).bind fun bt284 => ((offertoryref09_Big_Wide.f bt284.1 bt284.2.1 bt284.2.2.1 bt284.2.2.2.1 bt284.2.2.2.2.1 bt284.2.2.2.2.2.1 bt284.2.2.2.2.2.2.1 bt284.2.2.2.2.2.2.2).bind fun bt292 => (some (bt282.1 == bt292.1 && (bt282.2 == bt292.2)))))) else (none)))))) else (none))) = some r := H
  have A8 := Aside0.mk A80
  clear A80
  replace H := Option.bind_eq_some_iff.mp H
  obtain ⟨⟨t260, t261⟩, A90, H⟩ := H
  replace H : (if (t250 == t260 && (t251 == t261)) = true then ((wide_Sub.f a0_0 a0_1 a1_0 a1_1).bind fun bt262 => ((offertoryref09_Neg.f t239 t240 t241 t242 t243 t244 t245 t246).bind fun bt264 => ((offertoryref09_Add.f t231 t232 t233 t234 t235 t236 t237 t238 bt264.1 bt264.2.1 bt264.2.2.1 bt264.2.2.2.1 bt264.2.2.2.2.1 bt264.2.2.2.2.2.1 bt264.2.2.2.2.2.2.1 bt264.2.2.2.2.2.2.2).bind fun bt272 => ((offertoryref09_Big_Wide.f bt272.1 bt272.2.1 bt272.2.2.1 bt272.2.2.2.1 bt272.2.2.2.2.1 bt272.2.2.2.2.2.1 bt272.2.2.2.2.2.2.1 bt272.2.2.2.2.2.2.2).bind fun bt280 => (if (bt262.1 == bt280.1 && (bt262.2 == bt280.2)) = true then ((wide_Neg.f a0_0 a0_1).bind fun bt282 => ((offertoryref09_Neg.f t231 t232 t233 t234 t235 t236 t237 t238).bind fun bt284 => ((offertoryref09_Big_Wide.f bt284.1 bt284.2.1 bt284.2.2.1 bt284.2.2.2.1 bt284.2.2.2.2.1 bt284.2.2.2.2.2.1 bt284.2.2.2.2.2.2.1 bt284.2.2.2.2.2.2.2).bind fun bt292 => (some (bt282.1 == bt292.1 && (bt282.2 == bt292.2)))))) else (none)))))) else (none)) = some r := H
  have A9 := Aside0.mk A90
  clear A90
  by_cases c10 : (t250 == t260 && (t251 == t261)) = true
  ·
   rw [if_pos c10] at H
   have c10b0 : (t250 == t260 && (t251 == t261)) = true := c10
   (try (have c10b1 : decide (t250 = t260 && (t251 == t261)) = true := by simpa using c10))
   (try (have c10b2 : (t250 == t260 && (t251 == t261)) = true := by simpa using c10))
   clear c10
   replace H := Option.bind_eq_some_iff.mp H
   obtain ⟨⟨t262, t263⟩, A110, H⟩ := H
   replace H : ((offertoryref09_Neg.f t239 t240 t241 t242 t243 t244 t245 t246).bind fun bt264 => ((offertoryref09_Add.f t231 t232 t233 t234 t235 t236 t237 t238 bt264.1 bt264.2.1 bt264.2.2.1 bt264.2.2.2.1 bt264.2.2.2.2.1 bt264.2.2.2.2.2.1 bt264.2.2.2.2.2.2.1 bt264.2.2.2.2.2.2.2).bind fun bt272 => ((offertoryref09_Big_Wide.f bt272.1 bt272.2.1 bt272.2.2.1 bt272.2.2.2.1 bt272.2.2.2.2.1 bt272.2.2.2.2.2.1 bt272.2.2.2.2.2.2.1 bt272.2.2.2.2.2.2.2).bind fun bt280 => (if (t262 == bt280.1 && (t263 == bt280.2)) = true then ((wide_Neg.f a0_0 a0_1).bind fun bt282 => ((offertoryref09_Neg.f t231 t232 t233 t234 t235 t236 t237 t238).bind fun bt284 => ((offertoryref09_Big_Wide.f bt284.1 bt284.2.1 bt284.2.2.1 bt284.2.2.2.1 bt284.2.2.2.2.1 bt284.2.2.2.2.2.1 bt284.2.2.2.2.2.2.1 bt284.2.2.2.2.2.2.2).bind fun bt292 => (some (bt282.1 == bt292.1 && (bt282.2 == bt292.2)))))) else (none))))) = some r := H
   have A11 := Aside0.mk A110
   clear A110
   replace H := Option.bind_eq_some_iff.mp H
   obtain ⟨⟨t264, t265, t266, t267, t268, t269, t270, t271⟩, A120, H⟩ := H
   replace H : ((offertoryref09_Add.f t231 t232 t233 t234 t235 t236 t237 t238 t264 t265 t266 t267 t268 t269 t270 t271).bind fun bt272 => ((offertoryref09_Big_Wide.f bt272.1 bt272.2.1 bt272.2.2.1 bt272.2.2.2.1 bt272.2.2.2.2.1 bt272.2.2.2.2.2.1 bt272.2.2.2.2.2.2.1 bt272.2.2.2.2.2.2.2).bind fun bt280 => (if (t262 == bt280.1 && (t263 == bt280.2)) = true then ((wide_Neg.f a0_0 a0_1).bind fun bt282 => ((offertoryref09_Neg.f t231 t232 t233 t234 t235 t236 t237 t238).bind fun bt284 => ((offertoryref09_Big_Wide.f bt284.1 bt284.2.1 bt284.2.2.1 bt284.2.2.2.1 bt284.2.2.2.2.1 bt284.2.2.2.2.2.1 bt284.2.2.2.2.2.2.1 bt284.2.2.2.2.2.2.2).bind fun bt292 => (some (bt282.1 == bt292.1 && (bt282.2 == bt292.2)))))) else (none)))) = some r := H
   have A12 := Aside0.mk A120
   clear A120
   replace H := Option.bind_eq_some_iff.mp H
   obtain ⟨⟨t272, t273, t274, t275, t276, t277, t278, t279⟩, A130, H⟩ := H
   replace H : ((offertoryref09_Big_Wide.f t272 t273 t274 t275 t276 t277 t278 t279).bind fun bt280 => (if (t262 == bt280.1 && (t263 == bt280.2)) = true then ((wide_Neg.f a0_0 a0_1).bind fun bt282 => ((offertoryref09_Neg.f t231 t232 t233 t234 t235 t236 t237 t238).bind fun bt284 => ((offertoryref09_Big_Wide.f bt284.1 bt284.2.1 bt284.2.2.1 bt284.2.2.2.1 bt284.2.2.2.2.1 bt284.2.2.2.2.2.1 bt284.2.2.2.2.2.2.1 bt284.2.2.2.2.2.2.2).bind fun bt292 => (some (bt282.1 == bt292.1 && (bt282.2 == bt292.2)))))) else (none))) = some r := H
   have A13 := Aside0.mk A130
   clear A130
   replace H := Option.bind_eq_some_iff.mp H
   obtain ⟨⟨t280, t281⟩, A140, H⟩ := H
   replace H : (if (t262 == t280 && (t263 == t281)) = true then ((wide_Neg.f a0_0 a0_1).bind fun bt282 => ((offertoryref09_Neg.f t231 t232 t233 t234 t235 t236 t237 t238).bind fun bt284 => ((offertoryref09_Big_Wide.f bt284.1 bt284.2.1 bt284.2.2.1 bt284.2.2.2.1 bt284.2.2.2.2.1 bt284.2.2.2.2.2.1 bt284.2.2.2.2.2.2.1 bt284.2.2.2.2.2.2.2).bind fun bt292 => (some (bt282.1 == bt292.1 && (bt282.2 == bt292.2)))))) else (none)) = some r := H
   have A14 := Aside0.mk A140
   clear A140
   by_cases c15 : (t262 == t280 && (t263 == t281)) = true
   ·
    rw [if_pos c15] at H
    have c15b0 : (t262 == t280 && (t263 == t281)) = true := c15
    (try (have c15b1 : decide (t262 = t280 && (t263 == t281)) = true := by simpa using c15))
    (try (have c15b2 : (t262 == t280 && (t263 == t281)) = true := by simpa using c15))
    clear c15
    replace H := Option.bind_eq_some_iff.mp H
    obtain ⟨⟨t282, t283⟩, A160, H⟩ := H
    replace H : ((offertoryref09_Neg.f t231 t232 t233 t234 t235 t236 t237 t238).bind fun bt284 => ((offertoryref09_Big_Wide.f bt284.1 bt284.2.1 bt284.2.2.1 bt284.2.2.2.1 bt284.2.2.2.2.1 bt284.2.2.2.2.2.1 bt284.2.2.2.2.2.2.1 bt284.2.2.2.2.2.2.2).bind fun bt292 => (some (t282 == bt292.1 && (t283 == bt292.2))))) = some r := H
    have A16 := Aside0.mk A160
    clear A160
    replace H := Option.bind_eq_some_iff.mp H
    obtain ⟨⟨t284, t285, t286, t287, t288, t289, t290, t291⟩, A170, H⟩ := H
    replace H : ((offertoryref09_Big_Wide.f t284 t285 t286 t287 t288 t289 t290 t291).bind fun bt292 => (some (t282 == bt292.1 && (t283 == bt292.2)))) = some r := H
    have A17 := Aside0.mk A170
    clear A170
    replace H := Option.bind_eq_some_iff.mp H
    obtain ⟨⟨t292, t293⟩, A180, H⟩ := H
    replace H : (some (t282 == t292 && (t283 == t293))) = some r := H
    have A18 := Aside0.mk A180
    clear A180
    obtain rfl := Option.some.inj H
    go_enter Try.func6, Try.ntmps6
    try go_wp2_with (first | ((with_reducible refine gate_dst (N := 2) rfl ?_); refine box_event ?hg (N := 2) ?hd (cs := #[.int .u64 a0_0, .int .u64 a0_1]) (t := 25) ?hr ?_; (case hd => rfl); (case hg => rfl); (case hr => first | (go_simp; done) | (go_simp; rfl)); intro gb229 hg w19 hbox hb; have n0_ := Aside0.mk (below_step (by repeat (first | (with_reducible first | exact HB.out | apply below_alloc | apply pw_below_drewN | apply below_drew1) | exact HB.out)) hb); have n1_ := Aside0.mk (hbox); have n2_ := Aside0.mk ((by rw [hg]; exact (below_size (by repeat (first | (with_reducible first | exact HB.out | apply below_alloc | apply pw_below_drewN | apply below_drew1) | exact HB.out))) : w.heap.size ≤ gb229)); have n3_ := Aside0.mk ((by rw [hg]; exact (below_size (by repeat (first | (with_reducible first | exact HB.out | apply below_alloc | apply pw_below_drewN | apply below_drew1) | exact HB.out))) : w.heap.size ≤ gb229)); clear HB; have HB := n0_; have BK229 := n1_; have GW229 := n2_; have GE229 := n3_; clear n0_ n1_ n2_ n3_; clear hb hbox hg) | ((with_reducible refine gate_dst (N := 3) rfl ?_); refine box_event ?hg (N := 3) ?hd (cs := #[.int .u64 a1_0, .int .u64 a1_1]) (t := 25) ?hr ?_; (case hd => rfl); (case hg => rfl); (case hr => first | (go_simp; done) | (go_simp; rfl)); intro gb230 hg w20 hbox hb; have n0_ := Aside0.mk (blk_below (g := gb229) (o := .cells #[.int .u64 a0_0, .int .u64 a0_1] 25 (0, 0)) (by (with_reducible repeat (first | refine blk_drewN ?_ _ | refine blk_drew ?_ | refine blk_alloc ?_ _)); exact BK229.out) hb); have n1_ := Aside0.mk (below_step (by repeat (first | (with_reducible first | exact HB.out | apply below_alloc | apply pw_below_drewN | apply below_drew1 | refine below_set ?_ GE229.out) | exact HB.out)) hb); have n2_ := Aside0.mk (hbox); have n3_ := Aside0.mk ((by rw [hg]; exact (below_size (by repeat (first | (with_reducible first | exact HB.out | apply below_alloc | apply pw_below_drewN | apply below_drew1 | refine below_set ?_ GE229.out) | exact HB.out))) : w.heap.size ≤ gb230)); have n4_ := Aside0.mk ((by rw [hg]; exact (below_size (by repeat (first | (with_reducible first | exact HB.out | apply below_alloc | apply pw_below_drewN | apply below_drew1 | refine below_set ?_ GE229.out) | exact HB.out))) : w.heap.size ≤ gb230)); have n5_ := Aside0.mk ((by rw [hg]; exact Nat.ne_of_lt (blk_lt (g := gb229) (o := .cells #[.int .u64 a0_0, .int .u64 a0_1] 25 (0, 0)) (by (with_reducible repeat (first | refine blk_drewN ?_ _ | refine blk_drew ?_ | refine blk_alloc ?_ _)); exact BK229.out)) : gb229 ≠ gb230)); have n6_ := Aside0.mk ((by rw [hg]; exact Nat.ne_of_gt (blk_lt (g := gb229) (o := .cells #[.int .u64 a0_0, .int .u64 a0_1] 25 (0, 0)) (by (with_reducible repeat (first | refine blk_drewN ?_ _ | refine blk_drew ?_ | refine blk_alloc ?_ _)); exact BK229.out)) : gb230 ≠ gb229)); clear BK229; clear HB; have BK229 := n0_; have HB := n1_; have BK230 := n2_; have GW230 := n3_; have GE230 := n4_; have NB229_230 := n5_; have NB230_229 := n6_; clear n0_ n1_ n2_ n3_ n4_ n5_ n6_; clear hb hbox hg))
    have n0_ := Aside0.mk (blk_drew BK229.out)
    have n1_ := Aside0.mk (blk_drew BK230.out)
    have n2_ := Aside0.mk (below_drew1 HB.out)
    clear BK229
    clear BK230
    clear HB
    have BK229 := n0_
    have BK230 := n1_
    have HB := n2_
    clear n0_ n1_ n2_
    refine start_ (n := 8) (S := fun w' => w'.cell? ⟨gb229, 0, none⟩ = some (.int .u64 a0_0) ∧ w'.cell? ⟨gb229, 1, none⟩ = some (.int .u64 a0_1) ∧ w'.cell? ⟨gb230, 0, none⟩ = some (.int .u64 a1_0) ∧ w'.cell? ⟨gb230, 1, none⟩ = some (.int .u64 a1_1)) (ds := []) #[F, F, F, F, F, F, F, F] (by kernel_rfl) rfl rfl ⟨(blk_cell BK229.out 0).trans rfl, (blk_cell BK229.out 1).trans rfl, (blk_cell BK230.out 0).trans rfl, (blk_cell BK230.out 1).trans rfl⟩ (fun hHeld => ?_); refine with_tabW offertorylaw09_WideSums.tab1 offertorylaw09_WideSums.bits1 (fun HT_ HW_ => ?_)
    generalize w20.drew = w21 at BK229 BK230 HB hHeld ⊢
    refine take_ (i := 0) (N := some 7) (v := ?_) (a' := ?_) #[T, F, F, F, F, F, F, F] rfl rfl (take_ofW HT_.out HW_.out (by kernel_rfl)) (fun _ _ _ h => h) (Or.inl ⟨by rfl, ?_⟩) hHeld ?_ ?_
    rotate_left
    ·
     rintro w' ⟨s0, s1, s2, s3⟩
     (try simp only [add_plain] at s0 s1 s2 s3)
     go_simp
     with_reducible rfl
    rotate_left
    ·
     simp only [Act.put, List.setIfInBounds_toArray, List.set_cons_zero, List.set_cons_succ, i64_w, i32_w]
     rfl
    refine take_ (i := 2) (N := some 9) (v := ?_) (a' := ?_) #[T, F, T, F, F, F, F, F] rfl rfl (take_ofW HT_.out HW_.out (by kernel_rfl)) (fun _ _ _ h => h) (Or.inl ⟨by rfl, ?_⟩) hHeld ?_ ?_
    rotate_left
    ·
     rintro w' ⟨s0, s1, s2, s3⟩
     (try simp only [add_plain] at s0 s1 s2 s3)
     go_simp
     with_reducible rfl
    rotate_left
    ·
     simp only [Act.put, List.setIfInBounds_toArray, List.set_cons_zero, List.set_cons_succ, i64_w, i32_w]
     rfl
    refine join_ (σ := Nat × Nat) 2 #[T, T, T, T, T, T, F, F] (fun s_ => [(8, .agg #[.int .u32 t231, .int .u32 t232, .int .u32 t233, .int .u32 t234, .int .u32 t235, .int .u32 t236, .int .u32 t237, .int .u32 t238]), (10, .agg #[.int .u32 t239, .int .u32 t240, .int .u32 t241, .int .u32 t242, .int .u32 t243, .int .u32 t244, .int .u32 t245, .int .u32 t246]), (5, .pointer (some ⟨s_.1, 0, none⟩)), (6, .pointer (some ⟨s_.2, 0, none⟩))]) (fun s_ w' => (w'.cell? ⟨gb229, 0, none⟩ = some (.int .u64 a0_0) ∧ w'.cell? ⟨gb229, 1, none⟩ = some (.int .u64 a0_1) ∧ w'.cell? ⟨gb230, 0, none⟩ = some (.int .u64 a1_0) ∧ w'.cell? ⟨gb230, 1, none⟩ = some (.int .u64 a1_1)) ∧ (w'.heap[gb229]? = some (.cells #[.int .u64 a0_0, .int .u64 a0_1] 25 (0, 0))) ∧ (w'.heap[gb230]? = some (.cells #[.int .u64 a1_0, .int .u64 a1_1] 25 (0, 0))) ∧ (w'.heap[s_.1]? = some (.cells #[.int .u32 0, .int .u32 0, .int .u32 0, .int .u32 0, .int .u32 0, .int .u32 0, .int .u32 0, .int .u32 0] 29 (0, 0))) ∧ (w'.heap[s_.2]? = some (.cells #[.int .u32 0, .int .u32 0, .int .u32 0, .int .u32 0, .int .u32 0, .int .u32 0, .int .u32 0, .int .u32 0] 29 (0, 0))) ∧ (w.heap.size ≤ s_.1) ∧ (w.heap.size ≤ s_.1) ∧ (gb229 ≠ s_.1) ∧ (s_.1 ≠ gb229) ∧ (gb230 ≠ s_.1) ∧ (s_.1 ≠ gb230) ∧ (s_.2 ≠ s_.1) ∧ (s_.1 ≠ s_.2) ∧ (w.heap.size ≤ s_.2) ∧ (w.heap.size ≤ s_.2) ∧ (gb229 ≠ s_.2) ∧ (s_.2 ≠ gb229) ∧ (gb230 ≠ s_.2) ∧ (s_.2 ≠ gb230) ∧ (Below w.heap.size w w')) ?_ ?_
    rotate_left
    ·
     intro hJ1_3_4_5
     refine join_ (σ := Nat) 3 #[T, T, T, T, T, F, F, F] (fun s_ => [(8, .agg #[.int .u32 t231, .int .u32 t232, .int .u32 t233, .int .u32 t234, .int .u32 t235, .int .u32 t236, .int .u32 t237, .int .u32 t238]), (10, .agg #[.int .u32 t239, .int .u32 t240, .int .u32 t241, .int .u32 t242, .int .u32 t243, .int .u32 t244, .int .u32 t245, .int .u32 t246]), (5, .pointer (some ⟨s_, 0, none⟩))]) (fun s_ w' => (w'.cell? ⟨gb229, 0, none⟩ = some (.int .u64 a0_0) ∧ w'.cell? ⟨gb229, 1, none⟩ = some (.int .u64 a0_1) ∧ w'.cell? ⟨gb230, 0, none⟩ = some (.int .u64 a1_0) ∧ w'.cell? ⟨gb230, 1, none⟩ = some (.int .u64 a1_1)) ∧ (w'.heap[gb229]? = some (.cells #[.int .u64 a0_0, .int .u64 a0_1] 25 (0, 0))) ∧ (w'.heap[gb230]? = some (.cells #[.int .u64 a1_0, .int .u64 a1_1] 25 (0, 0))) ∧ (w'.heap[s_]? = some (.cells #[.int .u32 0, .int .u32 0, .int .u32 0, .int .u32 0, .int .u32 0, .int .u32 0, .int .u32 0, .int .u32 0] 29 (0, 0))) ∧ (w.heap.size ≤ s_) ∧ (w.heap.size ≤ s_) ∧ (gb229 ≠ s_) ∧ (s_ ≠ gb229) ∧ (gb230 ≠ s_) ∧ (s_ ≠ gb230) ∧ (Below w.heap.size w w')) ?_ ?_
     rotate_left
     ·
      intro hJ1_3_4
      refine join_ (σ := Nat) 3 #[T, T, T, T, F, T, F, F] (fun s_ => [(8, .agg #[.int .u32 t231, .int .u32 t232, .int .u32 t233, .int .u32 t234, .int .u32 t235, .int .u32 t236, .int .u32 t237, .int .u32 t238]), (10, .agg #[.int .u32 t239, .int .u32 t240, .int .u32 t241, .int .u32 t242, .int .u32 t243, .int .u32 t244, .int .u32 t245, .int .u32 t246]), (6, .pointer (some ⟨s_, 0, none⟩))]) (fun s_ w' => (w'.cell? ⟨gb229, 0, none⟩ = some (.int .u64 a0_0) ∧ w'.cell? ⟨gb229, 1, none⟩ = some (.int .u64 a0_1) ∧ w'.cell? ⟨gb230, 0, none⟩ = some (.int .u64 a1_0) ∧ w'.cell? ⟨gb230, 1, none⟩ = some (.int .u64 a1_1)) ∧ (w'.heap[gb229]? = some (.cells #[.int .u64 a0_0, .int .u64 a0_1] 25 (0, 0))) ∧ (w'.heap[gb230]? = some (.cells #[.int .u64 a1_0, .int .u64 a1_1] 25 (0, 0))) ∧ (w'.heap[s_]? = some (.cells #[.int .u32 0, .int .u32 0, .int .u32 0, .int .u32 0, .int .u32 0, .int .u32 0, .int .u32 0, .int .u32 0] 29 (0, 0))) ∧ (w.heap.size ≤ s_) ∧ (w.heap.size ≤ s_) ∧ (gb229 ≠ s_) ∧ (s_ ≠ gb229) ∧ (gb230 ≠ s_) ∧ (s_ ≠ gb230) ∧ (Below w.heap.size w w')) ?_ ?_
      rotate_left
      ·
       intro hJ1_3_5
       refine join_ (σ := Nat × Nat) 3 #[T, T, T, F, T, T, F, F] (fun s_ => [(8, .agg #[.int .u32 t231, .int .u32 t232, .int .u32 t233, .int .u32 t234, .int .u32 t235, .int .u32 t236, .int .u32 t237, .int .u32 t238]), (5, .pointer (some ⟨s_.1, 0, none⟩)), (6, .pointer (some ⟨s_.2, 0, none⟩))]) (fun s_ w' => (w'.cell? ⟨gb229, 0, none⟩ = some (.int .u64 a0_0) ∧ w'.cell? ⟨gb229, 1, none⟩ = some (.int .u64 a0_1) ∧ w'.cell? ⟨gb230, 0, none⟩ = some (.int .u64 a1_0) ∧ w'.cell? ⟨gb230, 1, none⟩ = some (.int .u64 a1_1)) ∧ (w'.heap[gb229]? = some (.cells #[.int .u64 a0_0, .int .u64 a0_1] 25 (0, 0))) ∧ (w'.heap[gb230]? = some (.cells #[.int .u64 a1_0, .int .u64 a1_1] 25 (0, 0))) ∧ (w'.heap[s_.1]? = some (.cells #[.int .u32 0, .int .u32 0, .int .u32 0, .int .u32 0, .int .u32 0, .int .u32 0, .int .u32 0, .int .u32 0] 29 (0, 0))) ∧ (w'.heap[s_.2]? = some (.cells #[.int .u32 0, .int .u32 0, .int .u32 0, .int .u32 0, .int .u32 0, .int .u32 0, .int .u32 0, .int .u32 0] 29 (0, 0))) ∧ (w.heap.size ≤ s_.1) ∧ (w.heap.size ≤ s_.1) ∧ (gb229 ≠ s_.1) ∧ (s_.1 ≠ gb229) ∧ (gb230 ≠ s_.1) ∧ (s_.1 ≠ gb230) ∧ (s_.2 ≠ s_.1) ∧ (s_.1 ≠ s_.2) ∧ (w.heap.size ≤ s_.2) ∧ (w.heap.size ≤ s_.2) ∧ (gb229 ≠ s_.2) ∧ (s_.2 ≠ gb229) ∧ (gb230 ≠ s_.2) ∧ (s_.2 ≠ gb230) ∧ (Below w.heap.size w w')) ?_ ?_
       rotate_left
       ·
        intro hJ1_4_5
        refine join_ (σ := Unit) 4 #[T, T, T, T, F, F, F, F] (fun s_ => [(8, .agg #[.int .u32 t231, .int .u32 t232, .int .u32 t233, .int .u32 t234, .int .u32 t235, .int .u32 t236, .int .u32 t237, .int .u32 t238]), (10, .agg #[.int .u32 t239, .int .u32 t240, .int .u32 t241, .int .u32 t242, .int .u32 t243, .int .u32 t244, .int .u32 t245, .int .u32 t246])]) (fun s_ w' => (w'.cell? ⟨gb229, 0, none⟩ = some (.int .u64 a0_0) ∧ w'.cell? ⟨gb229, 1, none⟩ = some (.int .u64 a0_1) ∧ w'.cell? ⟨gb230, 0, none⟩ = some (.int .u64 a1_0) ∧ w'.cell? ⟨gb230, 1, none⟩ = some (.int .u64 a1_1)) ∧ (w'.heap[gb229]? = some (.cells #[.int .u64 a0_0, .int .u64 a0_1] 25 (0, 0))) ∧ (w'.heap[gb230]? = some (.cells #[.int .u64 a1_0, .int .u64 a1_1] 25 (0, 0))) ∧ (Below w.heap.size w w')) ?_ ?_
        rotate_left
        ·
         intro hJ1_3
         refine join_ (σ := Nat) 4 #[T, T, T, F, T, F, F, F] (fun s_ => [(8, .agg #[.int .u32 t231, .int .u32 t232, .int .u32 t233, .int .u32 t234, .int .u32 t235, .int .u32 t236, .int .u32 t237, .int .u32 t238]), (5, .pointer (some ⟨s_, 0, none⟩))]) (fun s_ w' => (w'.cell? ⟨gb229, 0, none⟩ = some (.int .u64 a0_0) ∧ w'.cell? ⟨gb229, 1, none⟩ = some (.int .u64 a0_1) ∧ w'.cell? ⟨gb230, 0, none⟩ = some (.int .u64 a1_0) ∧ w'.cell? ⟨gb230, 1, none⟩ = some (.int .u64 a1_1)) ∧ (w'.heap[gb229]? = some (.cells #[.int .u64 a0_0, .int .u64 a0_1] 25 (0, 0))) ∧ (w'.heap[gb230]? = some (.cells #[.int .u64 a1_0, .int .u64 a1_1] 25 (0, 0))) ∧ (w'.heap[s_]? = some (.cells #[.int .u32 0, .int .u32 0, .int .u32 0, .int .u32 0, .int .u32 0, .int .u32 0, .int .u32 0, .int .u32 0] 29 (0, 0))) ∧ (w.heap.size ≤ s_) ∧ (w.heap.size ≤ s_) ∧ (gb229 ≠ s_) ∧ (s_ ≠ gb229) ∧ (gb230 ≠ s_) ∧ (s_ ≠ gb230) ∧ (Below w.heap.size w w')) ?_ ?_
         rotate_left
         ·
          intro hJ1_4
          refine join_ (σ := Nat) 4 #[T, T, T, F, F, T, F, F] (fun s_ => [(8, .agg #[.int .u32 t231, .int .u32 t232, .int .u32 t233, .int .u32 t234, .int .u32 t235, .int .u32 t236, .int .u32 t237, .int .u32 t238]), (6, .pointer (some ⟨s_, 0, none⟩))]) (fun s_ w' => (w'.cell? ⟨gb229, 0, none⟩ = some (.int .u64 a0_0) ∧ w'.cell? ⟨gb229, 1, none⟩ = some (.int .u64 a0_1) ∧ w'.cell? ⟨gb230, 0, none⟩ = some (.int .u64 a1_0) ∧ w'.cell? ⟨gb230, 1, none⟩ = some (.int .u64 a1_1)) ∧ (w'.heap[gb229]? = some (.cells #[.int .u64 a0_0, .int .u64 a0_1] 25 (0, 0))) ∧ (w'.heap[gb230]? = some (.cells #[.int .u64 a1_0, .int .u64 a1_1] 25 (0, 0))) ∧ (w'.heap[s_]? = some (.cells #[.int .u32 0, .int .u32 0, .int .u32 0, .int .u32 0, .int .u32 0, .int .u32 0, .int .u32 0, .int .u32 0] 29 (0, 0))) ∧ (w.heap.size ≤ s_) ∧ (w.heap.size ≤ s_) ∧ (gb229 ≠ s_) ∧ (s_ ≠ gb229) ∧ (gb230 ≠ s_) ∧ (s_ ≠ gb230) ∧ (Below w.heap.size w w')) ?_ ?_
          rotate_left
          ·
           intro hJ1_5
           refine join_ (σ := Nat × Nat) 4 #[T, F, T, F, T, T, F, F] (fun s_ => [(5, .pointer (some ⟨s_.1, 0, none⟩)), (6, .pointer (some ⟨s_.2, 0, none⟩))]) (fun s_ w' => (w'.cell? ⟨gb229, 0, none⟩ = some (.int .u64 a0_0) ∧ w'.cell? ⟨gb229, 1, none⟩ = some (.int .u64 a0_1) ∧ w'.cell? ⟨gb230, 0, none⟩ = some (.int .u64 a1_0) ∧ w'.cell? ⟨gb230, 1, none⟩ = some (.int .u64 a1_1)) ∧ (w'.heap[gb229]? = some (.cells #[.int .u64 a0_0, .int .u64 a0_1] 25 (0, 0))) ∧ (w'.heap[gb230]? = some (.cells #[.int .u64 a1_0, .int .u64 a1_1] 25 (0, 0))) ∧ (w'.heap[s_.1]? = some (.cells #[.int .u32 0, .int .u32 0, .int .u32 0, .int .u32 0, .int .u32 0, .int .u32 0, .int .u32 0, .int .u32 0] 29 (0, 0))) ∧ (w'.heap[s_.2]? = some (.cells #[.int .u32 0, .int .u32 0, .int .u32 0, .int .u32 0, .int .u32 0, .int .u32 0, .int .u32 0, .int .u32 0] 29 (0, 0))) ∧ (w.heap.size ≤ s_.1) ∧ (w.heap.size ≤ s_.1) ∧ (gb229 ≠ s_.1) ∧ (s_.1 ≠ gb229) ∧ (gb230 ≠ s_.1) ∧ (s_.1 ≠ gb230) ∧ (s_.2 ≠ s_.1) ∧ (s_.1 ≠ s_.2) ∧ (w.heap.size ≤ s_.2) ∧ (w.heap.size ≤ s_.2) ∧ (gb229 ≠ s_.2) ∧ (s_.2 ≠ gb229) ∧ (gb230 ≠ s_.2) ∧ (s_.2 ≠ gb230) ∧ (Below w.heap.size w w')) ?_ ?_
           rotate_left
           ·
            intro hJ4_5
            refine join_ (σ := Unit) 5 #[T, T, T, F, F, F, F, F] (fun s_ => [(8, .agg #[.int .u32 t231, .int .u32 t232, .int .u32 t233, .int .u32 t234, .int .u32 t235, .int .u32 t236, .int .u32 t237, .int .u32 t238])]) (fun s_ w' => (w'.cell? ⟨gb229, 0, none⟩ = some (.int .u64 a0_0) ∧ w'.cell? ⟨gb229, 1, none⟩ = some (.int .u64 a0_1) ∧ w'.cell? ⟨gb230, 0, none⟩ = some (.int .u64 a1_0) ∧ w'.cell? ⟨gb230, 1, none⟩ = some (.int .u64 a1_1)) ∧ (w'.heap[gb229]? = some (.cells #[.int .u64 a0_0, .int .u64 a0_1] 25 (0, 0))) ∧ (w'.heap[gb230]? = some (.cells #[.int .u64 a1_0, .int .u64 a1_1] 25 (0, 0))) ∧ (Below w.heap.size w w')) ?_ ?_
            rotate_left
            ·
             intro hJ1
             refine join_ (σ := Nat) 5 #[T, F, T, F, T, F, F, F] (fun s_ => [(5, .pointer (some ⟨s_, 0, none⟩))]) (fun s_ w' => (w'.cell? ⟨gb229, 0, none⟩ = some (.int .u64 a0_0) ∧ w'.cell? ⟨gb229, 1, none⟩ = some (.int .u64 a0_1) ∧ w'.cell? ⟨gb230, 0, none⟩ = some (.int .u64 a1_0) ∧ w'.cell? ⟨gb230, 1, none⟩ = some (.int .u64 a1_1)) ∧ (w'.heap[gb229]? = some (.cells #[.int .u64 a0_0, .int .u64 a0_1] 25 (0, 0))) ∧ (w'.heap[gb230]? = some (.cells #[.int .u64 a1_0, .int .u64 a1_1] 25 (0, 0))) ∧ (w'.heap[s_]? = some (.cells #[.int .u32 0, .int .u32 0, .int .u32 0, .int .u32 0, .int .u32 0, .int .u32 0, .int .u32 0, .int .u32 0] 29 (0, 0))) ∧ (w.heap.size ≤ s_) ∧ (w.heap.size ≤ s_) ∧ (gb229 ≠ s_) ∧ (s_ ≠ gb229) ∧ (gb230 ≠ s_) ∧ (s_ ≠ gb230) ∧ (Below w.heap.size w w')) ?_ ?_
             rotate_left
             ·
              intro hJ4
              refine join_ (σ := Nat) 5 #[T, F, T, F, F, T, F, F] (fun s_ => [(6, .pointer (some ⟨s_, 0, none⟩))]) (fun s_ w' => (w'.cell? ⟨gb229, 0, none⟩ = some (.int .u64 a0_0) ∧ w'.cell? ⟨gb229, 1, none⟩ = some (.int .u64 a0_1) ∧ w'.cell? ⟨gb230, 0, none⟩ = some (.int .u64 a1_0) ∧ w'.cell? ⟨gb230, 1, none⟩ = some (.int .u64 a1_1)) ∧ (w'.heap[gb229]? = some (.cells #[.int .u64 a0_0, .int .u64 a0_1] 25 (0, 0))) ∧ (w'.heap[gb230]? = some (.cells #[.int .u64 a1_0, .int .u64 a1_1] 25 (0, 0))) ∧ (w'.heap[s_]? = some (.cells #[.int .u32 0, .int .u32 0, .int .u32 0, .int .u32 0, .int .u32 0, .int .u32 0, .int .u32 0, .int .u32 0] 29 (0, 0))) ∧ (w.heap.size ≤ s_) ∧ (w.heap.size ≤ s_) ∧ (gb229 ≠ s_) ∧ (s_ ≠ gb229) ∧ (gb230 ≠ s_) ∧ (s_ ≠ gb230) ∧ (Below w.heap.size w w')) ?_ ?_
              rotate_left
              ·
               intro hJ5
               refine three_ (i := 1) (j := 4) (k := 5) (Ni := some 8) (Nj := some 5) (Nk := some 6) #[T, T, T, F, F, F, F, F] #[T, F, T, F, T, F, F, F] #[T, F, T, F, F, T, F, F] rfl rfl rfl rfl rfl rfl (three_of HT_.out (by kernel_rfl)) (by decide) (by decide) (by decide) (fun K hK => ?_) (fun K hK => ?_) (fun K hK => ?_)
               ·
                skip
                refine goes_ Try.func11 (by kernel_rfl) rfl #[.agg #[.int .u64 a0_0, .int .u64 a0_1]] (by rfl) rfl rfl (by (try simp only [List.map_toArray, List.map_cons, List.map_nil]); first | done | rfl | (simp only [List.length_drop, List.length_take]; rfl)) ?_
                with_reducible refine (offertoryref09_Of.calls a0_0 a0_1 t231 t232 t233 t234 t235 t236 t237 t238 _ A3.out).mono ?_
                rintro e w22 ⟨rfl, hb⟩
                refine ⟨_, rfl, ?_⟩
                have n0_ := Aside0.mk (blk_below (g := gb229) (o := .cells #[.int .u64 a0_0, .int .u64 a0_1] 25 (0, 0)) (by (with_reducible repeat (first | refine blk_drewN ?_ _ | refine blk_drew ?_ | refine blk_alloc ?_ _)); exact BK229.out) hb)
                have n1_ := Aside0.mk (blk_below (g := gb230) (o := .cells #[.int .u64 a1_0, .int .u64 a1_1] 25 (0, 0)) (by (with_reducible repeat (first | refine blk_drewN ?_ _ | refine blk_drew ?_ | refine blk_alloc ?_ _)); exact BK230.out) hb)
                have n2_ := Aside0.mk (below_step (by repeat (first | (with_reducible first | exact HB.out | apply below_alloc | apply pw_below_drewN | apply below_drew1 | refine below_set ?_ GE229.out | refine below_set ?_ GE230.out) | exact HB.out)) hb)
                clear BK229
                clear BK230
                clear HB
                have BK229 := n0_
                have BK230 := n1_
                have HB := n2_
                clear n0_ n1_ n2_
                (try clear hb)
                (try clear hb2)
                (try clear hk)
                (try clear hi)
                refine hK.out _ _ ⟨(blk_cell BK229.out 0).trans rfl, (blk_cell BK229.out 1).trans rfl, (blk_cell BK230.out 0).trans rfl, (blk_cell BK230.out 1).trans rfl⟩ (fun hHeld => ?_)
                clear hK K
                refine norm_ (a' := ?_) ?_ ?_
                rotate_left
                ·
                 show Act.put _ (some 8) _ = _
                 simp only [Act.put, List.setIfInBounds_toArray, List.set_cons_zero, List.set_cons_succ, i64_w, i32_w]
                 rfl
                exact norm_ (by first | (simp only [putAll, Act.put, List.setIfInBounds_toArray, List.set_cons_zero, List.set_cons_succ]; done) | (simp only [putAll, Act.put, List.setIfInBounds_toArray, List.set_cons_zero, List.set_cons_succ]; rfl)) (hJ1 () _ ⟨hHeld, (by (with_reducible repeat (first | refine blk_drewN ?_ _ | refine blk_drew ?_ | refine blk_alloc ?_ _)); exact BK229.out), (by (with_reducible repeat (first | refine blk_drewN ?_ _ | refine blk_drew ?_ | refine blk_alloc ?_ _)); exact BK230.out), (by repeat (first | (with_reducible first | exact HB.out | apply below_alloc | apply pw_below_drewN | apply below_drew1 | refine below_set ?_ GE229.out | refine below_set ?_ GE230.out) | exact HB.out))⟩)
               ·
                skip
                refine box_step ?hg (N := 5) ?hd (cs := #[.int .u32 0, .int .u32 0, .int .u32 0, .int .u32 0, .int .u32 0, .int .u32 0, .int .u32 0, .int .u32 0]) (t := 29) ?hr ?_; (case hd => rfl); (case hg => rfl); (case hr => first | (go_simp; done) | (go_simp; rfl))
                intro gb247 hg w22 hbox hb
                have n0_ := Aside0.mk (blk_below (g := gb229) (o := .cells #[.int .u64 a0_0, .int .u64 a0_1] 25 (0, 0)) (by (with_reducible repeat (first | refine blk_drewN ?_ _ | refine blk_drew ?_ | refine blk_alloc ?_ _)); exact BK229.out) hb)
                have n1_ := Aside0.mk (blk_below (g := gb230) (o := .cells #[.int .u64 a1_0, .int .u64 a1_1] 25 (0, 0)) (by (with_reducible repeat (first | refine blk_drewN ?_ _ | refine blk_drew ?_ | refine blk_alloc ?_ _)); exact BK230.out) hb)
                have n2_ := Aside0.mk (below_step (by repeat (first | (with_reducible first | exact HB.out | apply below_alloc | apply pw_below_drewN | apply below_drew1 | refine below_set ?_ GE229.out | refine below_set ?_ GE230.out) | exact HB.out)) hb)
                have n3_ := Aside0.mk (hbox)
                have n4_ := Aside0.mk ((by rw [hg]; exact (below_size (by repeat (first | (with_reducible first | exact HB.out | apply below_alloc | apply pw_below_drewN | apply below_drew1 | refine below_set ?_ GE229.out | refine below_set ?_ GE230.out) | exact HB.out))) : w.heap.size ≤ gb247))
                have n5_ := Aside0.mk ((by rw [hg]; exact (below_size (by repeat (first | (with_reducible first | exact HB.out | apply below_alloc | apply pw_below_drewN | apply below_drew1 | refine below_set ?_ GE229.out | refine below_set ?_ GE230.out) | exact HB.out))) : w.heap.size ≤ gb247))
                have n6_ := Aside0.mk ((by rw [hg]; exact Nat.ne_of_lt (blk_lt (g := gb229) (o := .cells #[.int .u64 a0_0, .int .u64 a0_1] 25 (0, 0)) (by (with_reducible repeat (first | refine blk_drewN ?_ _ | refine blk_drew ?_ | refine blk_alloc ?_ _)); exact BK229.out)) : gb229 ≠ gb247))
                have n7_ := Aside0.mk ((by rw [hg]; exact Nat.ne_of_gt (blk_lt (g := gb229) (o := .cells #[.int .u64 a0_0, .int .u64 a0_1] 25 (0, 0)) (by (with_reducible repeat (first | refine blk_drewN ?_ _ | refine blk_drew ?_ | refine blk_alloc ?_ _)); exact BK229.out)) : gb247 ≠ gb229))
                have n8_ := Aside0.mk ((by rw [hg]; exact Nat.ne_of_lt (blk_lt (g := gb230) (o := .cells #[.int .u64 a1_0, .int .u64 a1_1] 25 (0, 0)) (by (with_reducible repeat (first | refine blk_drewN ?_ _ | refine blk_drew ?_ | refine blk_alloc ?_ _)); exact BK230.out)) : gb230 ≠ gb247))
                have n9_ := Aside0.mk ((by rw [hg]; exact Nat.ne_of_gt (blk_lt (g := gb230) (o := .cells #[.int .u64 a1_0, .int .u64 a1_1] 25 (0, 0)) (by (with_reducible repeat (first | refine blk_drewN ?_ _ | refine blk_drew ?_ | refine blk_alloc ?_ _)); exact BK230.out)) : gb247 ≠ gb230))
                clear BK229
                clear BK230
                clear HB
                have BK229 := n0_
                have BK230 := n1_
                have HB := n2_
                have BK247 := n3_
                have GW247 := n4_
                have GE247 := n5_
                have NB229_247 := n6_
                have NB247_229 := n7_
                have NB230_247 := n8_
                have NB247_230 := n9_
                clear n0_ n1_ n2_ n3_ n4_ n5_ n6_ n7_ n8_ n9_
                clear hb hbox hg
                refine hK.out _ _ ⟨(blk_cell BK229.out 0).trans rfl, (blk_cell BK229.out 1).trans rfl, (blk_cell BK230.out 0).trans rfl, (blk_cell BK230.out 1).trans rfl⟩ (fun hHeld => ?_)
                clear hK K
                refine norm_ (a' := ?_) ?_ ?_
                rotate_left
                ·
                 show Act.put _ (some 5) _ = _
                 simp only [Act.put, List.setIfInBounds_toArray, List.set_cons_zero, List.set_cons_succ, i64_w, i32_w]
                 rfl
                exact norm_ (by first | (simp only [putAll, Act.put, List.setIfInBounds_toArray, List.set_cons_zero, List.set_cons_succ]; done) | (simp only [putAll, Act.put, List.setIfInBounds_toArray, List.set_cons_zero, List.set_cons_succ]; rfl)) (hJ4 (gb247) _ ⟨hHeld, (by (with_reducible repeat (first | refine blk_drewN ?_ _ | refine blk_drew ?_ | refine blk_alloc ?_ _)); exact BK229.out), (by (with_reducible repeat (first | refine blk_drewN ?_ _ | refine blk_drew ?_ | refine blk_alloc ?_ _)); exact BK230.out), (by (with_reducible repeat (first | refine blk_drewN ?_ _ | refine blk_drew ?_ | refine blk_alloc ?_ _)); exact BK247.out), GW247.out, GE247.out, NB229_247.out, NB247_229.out, NB230_247.out, NB247_230.out, (by repeat (first | (with_reducible first | exact HB.out | apply below_alloc | apply pw_below_drewN | apply below_drew1 | refine below_set ?_ GE229.out | refine below_set ?_ GE230.out | refine below_set ?_ GE247.out) | exact HB.out))⟩)
               ·
                skip
                refine box_step ?hg (N := 6) ?hd (cs := #[.int .u32 0, .int .u32 0, .int .u32 0, .int .u32 0, .int .u32 0, .int .u32 0, .int .u32 0, .int .u32 0]) (t := 29) ?hr ?_; (case hd => rfl); (case hg => rfl); (case hr => first | (go_simp; done) | (go_simp; rfl))
                intro gb248 hg w22 hbox hb
                have n0_ := Aside0.mk (blk_below (g := gb229) (o := .cells #[.int .u64 a0_0, .int .u64 a0_1] 25 (0, 0)) (by (with_reducible repeat (first | refine blk_drewN ?_ _ | refine blk_drew ?_ | refine blk_alloc ?_ _)); exact BK229.out) hb)
                have n1_ := Aside0.mk (blk_below (g := gb230) (o := .cells #[.int .u64 a1_0, .int .u64 a1_1] 25 (0, 0)) (by (with_reducible repeat (first | refine blk_drewN ?_ _ | refine blk_drew ?_ | refine blk_alloc ?_ _)); exact BK230.out) hb)
                have n2_ := Aside0.mk (below_step (by repeat (first | (with_reducible first | exact HB.out | apply below_alloc | apply pw_below_drewN | apply below_drew1 | refine below_set ?_ GE229.out | refine below_set ?_ GE230.out) | exact HB.out)) hb)
                have n3_ := Aside0.mk (hbox)
                have n4_ := Aside0.mk ((by rw [hg]; exact (below_size (by repeat (first | (with_reducible first | exact HB.out | apply below_alloc | apply pw_below_drewN | apply below_drew1 | refine below_set ?_ GE229.out | refine below_set ?_ GE230.out) | exact HB.out))) : w.heap.size ≤ gb248))
                have n5_ := Aside0.mk ((by rw [hg]; exact (below_size (by repeat (first | (with_reducible first | exact HB.out | apply below_alloc | apply pw_below_drewN | apply below_drew1 | refine below_set ?_ GE229.out | refine below_set ?_ GE230.out) | exact HB.out))) : w.heap.size ≤ gb248))
                have n6_ := Aside0.mk ((by rw [hg]; exact Nat.ne_of_lt (blk_lt (g := gb229) (o := .cells #[.int .u64 a0_0, .int .u64 a0_1] 25 (0, 0)) (by (with_reducible repeat (first | refine blk_drewN ?_ _ | refine blk_drew ?_ | refine blk_alloc ?_ _)); exact BK229.out)) : gb229 ≠ gb248))
                have n7_ := Aside0.mk ((by rw [hg]; exact Nat.ne_of_gt (blk_lt (g := gb229) (o := .cells #[.int .u64 a0_0, .int .u64 a0_1] 25 (0, 0)) (by (with_reducible repeat (first | refine blk_drewN ?_ _ | refine blk_drew ?_ | refine blk_alloc ?_ _)); exact BK229.out)) : gb248 ≠ gb229))
                have n8_ := Aside0.mk ((by rw [hg]; exact Nat.ne_of_lt (blk_lt (g := gb230) (o := .cells #[.int .u64 a1_0, .int .u64 a1_1] 25 (0, 0)) (by (with_reducible repeat (first | refine blk_drewN ?_ _ | refine blk_drew ?_ | refine blk_alloc ?_ _)); exact BK230.out)) : gb230 ≠ gb248))
                have n9_ := Aside0.mk ((by rw [hg]; exact Nat.ne_of_gt (blk_lt (g := gb230) (o := .cells #[.int .u64 a1_0, .int .u64 a1_1] 25 (0, 0)) (by (with_reducible repeat (first | refine blk_drewN ?_ _ | refine blk_drew ?_ | refine blk_alloc ?_ _)); exact BK230.out)) : gb248 ≠ gb230))
                clear BK229
                clear BK230
                clear HB
                have BK229 := n0_
                have BK230 := n1_
                have HB := n2_
                have BK248 := n3_
                have GW248 := n4_
                have GE248 := n5_
                have NB229_248 := n6_
                have NB248_229 := n7_
                have NB230_248 := n8_
                have NB248_230 := n9_
                clear n0_ n1_ n2_ n3_ n4_ n5_ n6_ n7_ n8_ n9_
                clear hb hbox hg
                refine hK.out _ _ ⟨(blk_cell BK229.out 0).trans rfl, (blk_cell BK229.out 1).trans rfl, (blk_cell BK230.out 0).trans rfl, (blk_cell BK230.out 1).trans rfl⟩ (fun hHeld => ?_)
                clear hK K
                refine norm_ (a' := ?_) ?_ ?_
                rotate_left
                ·
                 show Act.put _ (some 6) _ = _
                 simp only [Act.put, List.setIfInBounds_toArray, List.set_cons_zero, List.set_cons_succ, i64_w, i32_w]
                 rfl
                exact norm_ (by first | (simp only [putAll, Act.put, List.setIfInBounds_toArray, List.set_cons_zero, List.set_cons_succ]; done) | (simp only [putAll, Act.put, List.setIfInBounds_toArray, List.set_cons_zero, List.set_cons_succ]; rfl)) (hJ5 (gb248) _ ⟨hHeld, (by (with_reducible repeat (first | refine blk_drewN ?_ _ | refine blk_drew ?_ | refine blk_alloc ?_ _)); exact BK229.out), (by (with_reducible repeat (first | refine blk_drewN ?_ _ | refine blk_drew ?_ | refine blk_alloc ?_ _)); exact BK230.out), (by (with_reducible repeat (first | refine blk_drewN ?_ _ | refine blk_drew ?_ | refine blk_alloc ?_ _)); exact BK248.out), GW248.out, GE248.out, NB229_248.out, NB248_229.out, NB230_248.out, NB248_230.out, (by repeat (first | (with_reducible first | exact HB.out | apply below_alloc | apply pw_below_drewN | apply below_drew1 | refine below_set ?_ GE229.out | refine below_set ?_ GE230.out | refine below_set ?_ GE248.out) | exact HB.out))⟩)
              ·
               skip
               rintro gb248 w23 ⟨hS_, h0_, h1_, h2_, h3_, h4_, h5_, h6_, h7_, h8_, h9_⟩
               have n0_ : Aside0 (w23.heap[gb229]? = some (.cells #[.int .u64 a0_0, .int .u64 a0_1] 25 (0, 0))) := ⟨h0_⟩
               have n1_ : Aside0 (w23.heap[gb230]? = some (.cells #[.int .u64 a1_0, .int .u64 a1_1] 25 (0, 0))) := ⟨h1_⟩
               have n2_ : Aside0 (w23.heap[gb248]? = some (.cells #[.int .u32 0, .int .u32 0, .int .u32 0, .int .u32 0, .int .u32 0, .int .u32 0, .int .u32 0, .int .u32 0] 29 (0, 0))) := ⟨h2_⟩
               have n3_ : Aside0 (w.heap.size ≤ gb248) := ⟨h3_⟩
               have n4_ : Aside0 (w.heap.size ≤ gb248) := ⟨h4_⟩
               have n5_ : Aside0 (gb229 ≠ gb248) := ⟨h5_⟩
               have n6_ : Aside0 (gb248 ≠ gb229) := ⟨h6_⟩
               have n7_ : Aside0 (gb230 ≠ gb248) := ⟨h7_⟩
               have n8_ : Aside0 (gb248 ≠ gb230) := ⟨h8_⟩
               have n9_ : Aside0 (Below w.heap.size w w23) := ⟨h9_⟩
               clear BK229
               clear BK230
               clear HB
               clear h0_ h1_ h2_ h3_ h4_ h5_ h6_ h7_ h8_ h9_
               have BK229 := n0_
               have BK230 := n1_
               have BK248 := n2_
               have GW248 := n3_
               have GE248 := n4_
               have NB229_248 := n5_
               have NB248_229 := n6_
               have NB230_248 := n7_
               have NB248_230 := n8_
               have HB := n9_
               clear n0_ n1_ n2_ n3_ n4_ n5_ n6_ n7_ n8_ n9_
               have hHeld : w23.cell? ⟨gb229, 0, none⟩ = some (.int .u64 a0_0) ∧ w23.cell? ⟨gb229, 1, none⟩ = some (.int .u64 a0_1) ∧ w23.cell? ⟨gb230, 0, none⟩ = some (.int .u64 a1_0) ∧ w23.cell? ⟨gb230, 1, none⟩ = some (.int .u64 a1_1) := hS_
               refine norm_ (a' := ?_) ?_ ?_
               rotate_left
               ·
                simp only [putAll, Act.put, List.setIfInBounds_toArray, List.set_cons_zero, List.set_cons_succ]
                rfl
               refine two_ (i := 1) (j := 4) (Ni := some 8) (Nj := some 5) #[T, T, T, F, F, T, F, F] #[T, F, T, F, T, T, F, F] rfl rfl rfl rfl (two_of HT_.out (by kernel_rfl)) (by decide) (by decide) (fun K hK => ?_) (fun K hK => ?_)
               ·
                skip
                refine goes_ Try.func11 (by kernel_rfl) rfl #[.agg #[.int .u64 a0_0, .int .u64 a0_1]] (by rfl) rfl rfl (by (try simp only [List.map_toArray, List.map_cons, List.map_nil]); first | done | rfl | (simp only [List.length_drop, List.length_take]; rfl)) ?_
                with_reducible refine (offertoryref09_Of.calls a0_0 a0_1 t231 t232 t233 t234 t235 t236 t237 t238 _ A3.out).mono ?_
                rintro e w24 ⟨rfl, hb⟩
                refine ⟨_, rfl, ?_⟩
                have n0_ := Aside0.mk (blk_below (g := gb229) (o := .cells #[.int .u64 a0_0, .int .u64 a0_1] 25 (0, 0)) (by (with_reducible repeat (first | refine blk_drewN ?_ _ | refine blk_drew ?_ | refine blk_alloc ?_ _)); exact BK229.out) hb)
                have n1_ := Aside0.mk (blk_below (g := gb230) (o := .cells #[.int .u64 a1_0, .int .u64 a1_1] 25 (0, 0)) (by (with_reducible repeat (first | refine blk_drewN ?_ _ | refine blk_drew ?_ | refine blk_alloc ?_ _)); exact BK230.out) hb)
                have n2_ := Aside0.mk (blk_below (g := gb248) (o := .cells #[.int .u32 0, .int .u32 0, .int .u32 0, .int .u32 0, .int .u32 0, .int .u32 0, .int .u32 0, .int .u32 0] 29 (0, 0)) (by (with_reducible repeat (first | refine blk_drewN ?_ _ | refine blk_drew ?_ | refine blk_alloc ?_ _)); exact BK248.out) hb)
                have n3_ := Aside0.mk (below_step (by repeat (first | (with_reducible first | exact HB.out | apply below_alloc | apply pw_below_drewN | apply below_drew1 | refine below_set ?_ GE229.out | refine below_set ?_ GE230.out | refine below_set ?_ GE248.out) | exact HB.out)) hb)
                clear BK229
                clear BK230
                clear BK248
                clear HB
                have BK229 := n0_
                have BK230 := n1_
                have BK248 := n2_
                have HB := n3_
                clear n0_ n1_ n2_ n3_
                (try clear hb)
                (try clear hb2)
                (try clear hk)
                (try clear hi)
                refine hK.out _ _ ⟨(blk_cell BK229.out 0).trans rfl, (blk_cell BK229.out 1).trans rfl, (blk_cell BK230.out 0).trans rfl, (blk_cell BK230.out 1).trans rfl⟩ (fun hHeld => ?_)
                clear hK K
                refine norm_ (a' := ?_) ?_ ?_
                rotate_left
                ·
                 show Act.put _ (some 8) _ = _
                 simp only [Act.put, List.setIfInBounds_toArray, List.set_cons_zero, List.set_cons_succ, i64_w, i32_w]
                 rfl
                exact norm_ (by first | (simp only [putAll, Act.put, List.setIfInBounds_toArray, List.set_cons_zero, List.set_cons_succ]; done) | (simp only [putAll, Act.put, List.setIfInBounds_toArray, List.set_cons_zero, List.set_cons_succ]; rfl)) (hJ1_5 (gb248) _ ⟨hHeld, (by (with_reducible repeat (first | refine blk_drewN ?_ _ | refine blk_drew ?_ | refine blk_alloc ?_ _)); exact BK229.out), (by (with_reducible repeat (first | refine blk_drewN ?_ _ | refine blk_drew ?_ | refine blk_alloc ?_ _)); exact BK230.out), (by (with_reducible repeat (first | refine blk_drewN ?_ _ | refine blk_drew ?_ | refine blk_alloc ?_ _)); exact BK248.out), GW248.out, GE248.out, NB229_248.out, NB248_229.out, NB230_248.out, NB248_230.out, (by repeat (first | (with_reducible first | exact HB.out | apply below_alloc | apply pw_below_drewN | apply below_drew1 | refine below_set ?_ GE229.out | refine below_set ?_ GE230.out | refine below_set ?_ GE248.out) | exact HB.out))⟩)
               ·
                skip
                refine box_step ?hg (N := 5) ?hd (cs := #[.int .u32 0, .int .u32 0, .int .u32 0, .int .u32 0, .int .u32 0, .int .u32 0, .int .u32 0, .int .u32 0]) (t := 29) ?hr ?_; (case hd => rfl); (case hg => rfl); (case hr => first | (go_simp; done) | (go_simp; rfl))
                intro gb247 hg w24 hbox hb
                have n0_ := Aside0.mk (blk_below (g := gb229) (o := .cells #[.int .u64 a0_0, .int .u64 a0_1] 25 (0, 0)) (by (with_reducible repeat (first | refine blk_drewN ?_ _ | refine blk_drew ?_ | refine blk_alloc ?_ _)); exact BK229.out) hb)
                have n1_ := Aside0.mk (blk_below (g := gb230) (o := .cells #[.int .u64 a1_0, .int .u64 a1_1] 25 (0, 0)) (by (with_reducible repeat (first | refine blk_drewN ?_ _ | refine blk_drew ?_ | refine blk_alloc ?_ _)); exact BK230.out) hb)
                have n2_ := Aside0.mk (blk_below (g := gb248) (o := .cells #[.int .u32 0, .int .u32 0, .int .u32 0, .int .u32 0, .int .u32 0, .int .u32 0, .int .u32 0, .int .u32 0] 29 (0, 0)) (by (with_reducible repeat (first | refine blk_drewN ?_ _ | refine blk_drew ?_ | refine blk_alloc ?_ _)); exact BK248.out) hb)
                have n3_ := Aside0.mk (below_step (by repeat (first | (with_reducible first | exact HB.out | apply below_alloc | apply pw_below_drewN | apply below_drew1 | refine below_set ?_ GE229.out | refine below_set ?_ GE230.out | refine below_set ?_ GE248.out) | exact HB.out)) hb)
                have n4_ := Aside0.mk (hbox)
                have n5_ := Aside0.mk ((by rw [hg]; exact (below_size (by repeat (first | (with_reducible first | exact HB.out | apply below_alloc | apply pw_below_drewN | apply below_drew1 | refine below_set ?_ GE229.out | refine below_set ?_ GE230.out | refine below_set ?_ GE248.out) | exact HB.out))) : w.heap.size ≤ gb247))
                have n6_ := Aside0.mk ((by rw [hg]; exact (below_size (by repeat (first | (with_reducible first | exact HB.out | apply below_alloc | apply pw_below_drewN | apply below_drew1 | refine below_set ?_ GE229.out | refine below_set ?_ GE230.out | refine below_set ?_ GE248.out) | exact HB.out))) : w.heap.size ≤ gb247))
                have n7_ := Aside0.mk ((by rw [hg]; exact Nat.ne_of_lt (blk_lt (g := gb229) (o := .cells #[.int .u64 a0_0, .int .u64 a0_1] 25 (0, 0)) (by (with_reducible repeat (first | refine blk_drewN ?_ _ | refine blk_drew ?_ | refine blk_alloc ?_ _)); exact BK229.out)) : gb229 ≠ gb247))
                have n8_ := Aside0.mk ((by rw [hg]; exact Nat.ne_of_gt (blk_lt (g := gb229) (o := .cells #[.int .u64 a0_0, .int .u64 a0_1] 25 (0, 0)) (by (with_reducible repeat (first | refine blk_drewN ?_ _ | refine blk_drew ?_ | refine blk_alloc ?_ _)); exact BK229.out)) : gb247 ≠ gb229))
                have n9_ := Aside0.mk ((by rw [hg]; exact Nat.ne_of_lt (blk_lt (g := gb230) (o := .cells #[.int .u64 a1_0, .int .u64 a1_1] 25 (0, 0)) (by (with_reducible repeat (first | refine blk_drewN ?_ _ | refine blk_drew ?_ | refine blk_alloc ?_ _)); exact BK230.out)) : gb230 ≠ gb247))
                have n10_ := Aside0.mk ((by rw [hg]; exact Nat.ne_of_gt (blk_lt (g := gb230) (o := .cells #[.int .u64 a1_0, .int .u64 a1_1] 25 (0, 0)) (by (with_reducible repeat (first | refine blk_drewN ?_ _ | refine blk_drew ?_ | refine blk_alloc ?_ _)); exact BK230.out)) : gb247 ≠ gb230))
                have n11_ := Aside0.mk ((by rw [hg]; exact Nat.ne_of_lt (blk_lt (g := gb248) (o := .cells #[.int .u32 0, .int .u32 0, .int .u32 0, .int .u32 0, .int .u32 0, .int .u32 0, .int .u32 0, .int .u32 0] 29 (0, 0)) (by (with_reducible repeat (first | refine blk_drewN ?_ _ | refine blk_drew ?_ | refine blk_alloc ?_ _)); exact BK248.out)) : gb248 ≠ gb247))
                have n12_ := Aside0.mk ((by rw [hg]; exact Nat.ne_of_gt (blk_lt (g := gb248) (o := .cells #[.int .u32 0, .int .u32 0, .int .u32 0, .int .u32 0, .int .u32 0, .int .u32 0, .int .u32 0, .int .u32 0] 29 (0, 0)) (by (with_reducible repeat (first | refine blk_drewN ?_ _ | refine blk_drew ?_ | refine blk_alloc ?_ _)); exact BK248.out)) : gb247 ≠ gb248))
                clear BK229
                clear BK230
                clear BK248
                clear HB
                have BK229 := n0_
                have BK230 := n1_
                have BK248 := n2_
                have HB := n3_
                have BK247 := n4_
                have GW247 := n5_
                have GE247 := n6_
                have NB229_247 := n7_
                have NB247_229 := n8_
                have NB230_247 := n9_
                have NB247_230 := n10_
                have NB248_247 := n11_
                have NB247_248 := n12_
                clear n0_ n1_ n2_ n3_ n4_ n5_ n6_ n7_ n8_ n9_ n10_ n11_ n12_
                clear hb hbox hg
                refine hK.out _ _ ⟨(blk_cell BK229.out 0).trans rfl, (blk_cell BK229.out 1).trans rfl, (blk_cell BK230.out 0).trans rfl, (blk_cell BK230.out 1).trans rfl⟩ (fun hHeld => ?_)
                clear hK K
                refine norm_ (a' := ?_) ?_ ?_
                rotate_left
                ·
                 show Act.put _ (some 5) _ = _
                 simp only [Act.put, List.setIfInBounds_toArray, List.set_cons_zero, List.set_cons_succ, i64_w, i32_w]
                 rfl
                exact norm_ (by first | (simp only [putAll, Act.put, List.setIfInBounds_toArray, List.set_cons_zero, List.set_cons_succ]; done) | (simp only [putAll, Act.put, List.setIfInBounds_toArray, List.set_cons_zero, List.set_cons_succ]; rfl)) (hJ4_5 (gb247, gb248) _ ⟨hHeld, (by (with_reducible repeat (first | refine blk_drewN ?_ _ | refine blk_drew ?_ | refine blk_alloc ?_ _)); exact BK229.out), (by (with_reducible repeat (first | refine blk_drewN ?_ _ | refine blk_drew ?_ | refine blk_alloc ?_ _)); exact BK230.out), (by (with_reducible repeat (first | refine blk_drewN ?_ _ | refine blk_drew ?_ | refine blk_alloc ?_ _)); exact BK247.out), (by (with_reducible repeat (first | refine blk_drewN ?_ _ | refine blk_drew ?_ | refine blk_alloc ?_ _)); exact BK248.out), GW247.out, GE247.out, NB229_247.out, NB247_229.out, NB230_247.out, NB247_230.out, NB248_247.out, NB247_248.out, GW248.out, GE248.out, NB229_248.out, NB248_229.out, NB230_248.out, NB248_230.out, (by repeat (first | (with_reducible first | exact HB.out | apply below_alloc | apply pw_below_drewN | apply below_drew1 | refine below_set ?_ GE229.out | refine below_set ?_ GE230.out | refine below_set ?_ GE248.out | refine below_set ?_ GE247.out) | exact HB.out))⟩)
             ·
              skip
              rintro gb247 w23 ⟨hS_, h0_, h1_, h2_, h3_, h4_, h5_, h6_, h7_, h8_, h9_⟩
              have n0_ : Aside0 (w23.heap[gb229]? = some (.cells #[.int .u64 a0_0, .int .u64 a0_1] 25 (0, 0))) := ⟨h0_⟩
              have n1_ : Aside0 (w23.heap[gb230]? = some (.cells #[.int .u64 a1_0, .int .u64 a1_1] 25 (0, 0))) := ⟨h1_⟩
              have n2_ : Aside0 (w23.heap[gb247]? = some (.cells #[.int .u32 0, .int .u32 0, .int .u32 0, .int .u32 0, .int .u32 0, .int .u32 0, .int .u32 0, .int .u32 0] 29 (0, 0))) := ⟨h2_⟩
              have n3_ : Aside0 (w.heap.size ≤ gb247) := ⟨h3_⟩
              have n4_ : Aside0 (w.heap.size ≤ gb247) := ⟨h4_⟩
              have n5_ : Aside0 (gb229 ≠ gb247) := ⟨h5_⟩
              have n6_ : Aside0 (gb247 ≠ gb229) := ⟨h6_⟩
              have n7_ : Aside0 (gb230 ≠ gb247) := ⟨h7_⟩
              have n8_ : Aside0 (gb247 ≠ gb230) := ⟨h8_⟩
              have n9_ : Aside0 (Below w.heap.size w w23) := ⟨h9_⟩
              clear BK229
              clear BK230
              clear HB
              clear h0_ h1_ h2_ h3_ h4_ h5_ h6_ h7_ h8_ h9_
              have BK229 := n0_
              have BK230 := n1_
              have BK247 := n2_
              have GW247 := n3_
              have GE247 := n4_
              have NB229_247 := n5_
              have NB247_229 := n6_
              have NB230_247 := n7_
              have NB247_230 := n8_
              have HB := n9_
              clear n0_ n1_ n2_ n3_ n4_ n5_ n6_ n7_ n8_ n9_
              have hHeld : w23.cell? ⟨gb229, 0, none⟩ = some (.int .u64 a0_0) ∧ w23.cell? ⟨gb229, 1, none⟩ = some (.int .u64 a0_1) ∧ w23.cell? ⟨gb230, 0, none⟩ = some (.int .u64 a1_0) ∧ w23.cell? ⟨gb230, 1, none⟩ = some (.int .u64 a1_1) := hS_
              refine norm_ (a' := ?_) ?_ ?_
              rotate_left
              ·
               simp only [putAll, Act.put, List.setIfInBounds_toArray, List.set_cons_zero, List.set_cons_succ]
               rfl
              refine two_ (i := 1) (j := 5) (Ni := some 8) (Nj := some 6) #[T, T, T, F, T, F, F, F] #[T, F, T, F, T, T, F, F] rfl rfl rfl rfl (two_of HT_.out (by kernel_rfl)) (by decide) (by decide) (fun K hK => ?_) (fun K hK => ?_)
              ·
               skip
               refine goes_ Try.func11 (by kernel_rfl) rfl #[.agg #[.int .u64 a0_0, .int .u64 a0_1]] (by rfl) rfl rfl (by (try simp only [List.map_toArray, List.map_cons, List.map_nil]); first | done | rfl | (simp only [List.length_drop, List.length_take]; rfl)) ?_
               with_reducible refine (offertoryref09_Of.calls a0_0 a0_1 t231 t232 t233 t234 t235 t236 t237 t238 _ A3.out).mono ?_
               rintro e w24 ⟨rfl, hb⟩
               refine ⟨_, rfl, ?_⟩
               have n0_ := Aside0.mk (blk_below (g := gb229) (o := .cells #[.int .u64 a0_0, .int .u64 a0_1] 25 (0, 0)) (by (with_reducible repeat (first | refine blk_drewN ?_ _ | refine blk_drew ?_ | refine blk_alloc ?_ _)); exact BK229.out) hb)
               have n1_ := Aside0.mk (blk_below (g := gb230) (o := .cells #[.int .u64 a1_0, .int .u64 a1_1] 25 (0, 0)) (by (with_reducible repeat (first | refine blk_drewN ?_ _ | refine blk_drew ?_ | refine blk_alloc ?_ _)); exact BK230.out) hb)
               have n2_ := Aside0.mk (blk_below (g := gb247) (o := .cells #[.int .u32 0, .int .u32 0, .int .u32 0, .int .u32 0, .int .u32 0, .int .u32 0, .int .u32 0, .int .u32 0] 29 (0, 0)) (by (with_reducible repeat (first | refine blk_drewN ?_ _ | refine blk_drew ?_ | refine blk_alloc ?_ _)); exact BK247.out) hb)
               have n3_ := Aside0.mk (below_step (by repeat (first | (with_reducible first | exact HB.out | apply below_alloc | apply pw_below_drewN | apply below_drew1 | refine below_set ?_ GE229.out | refine below_set ?_ GE230.out | refine below_set ?_ GE247.out) | exact HB.out)) hb)
               clear BK229
               clear BK230
               clear BK247
               clear HB
               have BK229 := n0_
               have BK230 := n1_
               have BK247 := n2_
               have HB := n3_
               clear n0_ n1_ n2_ n3_
               (try clear hb)
               (try clear hb2)
               (try clear hk)
               (try clear hi)
               refine hK.out _ _ ⟨(blk_cell BK229.out 0).trans rfl, (blk_cell BK229.out 1).trans rfl, (blk_cell BK230.out 0).trans rfl, (blk_cell BK230.out 1).trans rfl⟩ (fun hHeld => ?_)
               clear hK K
               refine norm_ (a' := ?_) ?_ ?_
               rotate_left
               ·
                show Act.put _ (some 8) _ = _
                simp only [Act.put, List.setIfInBounds_toArray, List.set_cons_zero, List.set_cons_succ, i64_w, i32_w]
                rfl
               exact norm_ (by first | (simp only [putAll, Act.put, List.setIfInBounds_toArray, List.set_cons_zero, List.set_cons_succ]; done) | (simp only [putAll, Act.put, List.setIfInBounds_toArray, List.set_cons_zero, List.set_cons_succ]; rfl)) (hJ1_4 (gb247) _ ⟨hHeld, (by (with_reducible repeat (first | refine blk_drewN ?_ _ | refine blk_drew ?_ | refine blk_alloc ?_ _)); exact BK229.out), (by (with_reducible repeat (first | refine blk_drewN ?_ _ | refine blk_drew ?_ | refine blk_alloc ?_ _)); exact BK230.out), (by (with_reducible repeat (first | refine blk_drewN ?_ _ | refine blk_drew ?_ | refine blk_alloc ?_ _)); exact BK247.out), GW247.out, GE247.out, NB229_247.out, NB247_229.out, NB230_247.out, NB247_230.out, (by repeat (first | (with_reducible first | exact HB.out | apply below_alloc | apply pw_below_drewN | apply below_drew1 | refine below_set ?_ GE229.out | refine below_set ?_ GE230.out | refine below_set ?_ GE247.out) | exact HB.out))⟩)
              ·
               skip
               refine box_step ?hg (N := 6) ?hd (cs := #[.int .u32 0, .int .u32 0, .int .u32 0, .int .u32 0, .int .u32 0, .int .u32 0, .int .u32 0, .int .u32 0]) (t := 29) ?hr ?_; (case hd => rfl); (case hg => rfl); (case hr => first | (go_simp; done) | (go_simp; rfl))
               intro gb248 hg w24 hbox hb
               have n0_ := Aside0.mk (blk_below (g := gb229) (o := .cells #[.int .u64 a0_0, .int .u64 a0_1] 25 (0, 0)) (by (with_reducible repeat (first | refine blk_drewN ?_ _ | refine blk_drew ?_ | refine blk_alloc ?_ _)); exact BK229.out) hb)
               have n1_ := Aside0.mk (blk_below (g := gb230) (o := .cells #[.int .u64 a1_0, .int .u64 a1_1] 25 (0, 0)) (by (with_reducible repeat (first | refine blk_drewN ?_ _ | refine blk_drew ?_ | refine blk_alloc ?_ _)); exact BK230.out) hb)
               have n2_ := Aside0.mk (blk_below (g := gb247) (o := .cells #[.int .u32 0, .int .u32 0, .int .u32 0, .int .u32 0, .int .u32 0, .int .u32 0, .int .u32 0, .int .u32 0] 29 (0, 0)) (by (with_reducible repeat (first | refine blk_drewN ?_ _ | refine blk_drew ?_ | refine blk_alloc ?_ _)); exact BK247.out) hb)
               have n3_ := Aside0.mk (below_step (by repeat (first | (with_reducible first | exact HB.out | apply below_alloc | apply pw_below_drewN | apply below_drew1 | refine below_set ?_ GE229.out | refine below_set ?_ GE230.out | refine below_set ?_ GE247.out) | exact HB.out)) hb)
               have n4_ := Aside0.mk (hbox)
               have n5_ := Aside0.mk ((by rw [hg]; exact (below_size (by repeat (first | (with_reducible first | exact HB.out | apply below_alloc | apply pw_below_drewN | apply below_drew1 | refine below_set ?_ GE229.out | refine below_set ?_ GE230.out | refine below_set ?_ GE247.out) | exact HB.out))) : w.heap.size ≤ gb248))
               have n6_ := Aside0.mk ((by rw [hg]; exact (below_size (by repeat (first | (with_reducible first | exact HB.out | apply below_alloc | apply pw_below_drewN | apply below_drew1 | refine below_set ?_ GE229.out | refine below_set ?_ GE230.out | refine below_set ?_ GE247.out) | exact HB.out))) : w.heap.size ≤ gb248))
               have n7_ := Aside0.mk ((by rw [hg]; exact Nat.ne_of_lt (blk_lt (g := gb229) (o := .cells #[.int .u64 a0_0, .int .u64 a0_1] 25 (0, 0)) (by (with_reducible repeat (first | refine blk_drewN ?_ _ | refine blk_drew ?_ | refine blk_alloc ?_ _)); exact BK229.out)) : gb229 ≠ gb248))
               have n8_ := Aside0.mk ((by rw [hg]; exact Nat.ne_of_gt (blk_lt (g := gb229) (o := .cells #[.int .u64 a0_0, .int .u64 a0_1] 25 (0, 0)) (by (with_reducible repeat (first | refine blk_drewN ?_ _ | refine blk_drew ?_ | refine blk_alloc ?_ _)); exact BK229.out)) : gb248 ≠ gb229))
               have n9_ := Aside0.mk ((by rw [hg]; exact Nat.ne_of_lt (blk_lt (g := gb230) (o := .cells #[.int .u64 a1_0, .int .u64 a1_1] 25 (0, 0)) (by (with_reducible repeat (first | refine blk_drewN ?_ _ | refine blk_drew ?_ | refine blk_alloc ?_ _)); exact BK230.out)) : gb230 ≠ gb248))
               have n10_ := Aside0.mk ((by rw [hg]; exact Nat.ne_of_gt (blk_lt (g := gb230) (o := .cells #[.int .u64 a1_0, .int .u64 a1_1] 25 (0, 0)) (by (with_reducible repeat (first | refine blk_drewN ?_ _ | refine blk_drew ?_ | refine blk_alloc ?_ _)); exact BK230.out)) : gb248 ≠ gb230))
               have n11_ := Aside0.mk ((by rw [hg]; exact Nat.ne_of_lt (blk_lt (g := gb247) (o := .cells #[.int .u32 0, .int .u32 0, .int .u32 0, .int .u32 0, .int .u32 0, .int .u32 0, .int .u32 0, .int .u32 0] 29 (0, 0)) (by (with_reducible repeat (first | refine blk_drewN ?_ _ | refine blk_drew ?_ | refine blk_alloc ?_ _)); exact BK247.out)) : gb247 ≠ gb248))
               have n12_ := Aside0.mk ((by rw [hg]; exact Nat.ne_of_gt (blk_lt (g := gb247) (o := .cells #[.int .u32 0, .int .u32 0, .int .u32 0, .int .u32 0, .int .u32 0, .int .u32 0, .int .u32 0, .int .u32 0] 29 (0, 0)) (by (with_reducible repeat (first | refine blk_drewN ?_ _ | refine blk_drew ?_ | refine blk_alloc ?_ _)); exact BK247.out)) : gb248 ≠ gb247))
               clear BK229
               clear BK230
               clear BK247
               clear HB
               have BK229 := n0_
               have BK230 := n1_
               have BK247 := n2_
               have HB := n3_
               have BK248 := n4_
               have GW248 := n5_
               have GE248 := n6_
               have NB229_248 := n7_
               have NB248_229 := n8_
               have NB230_248 := n9_
               have NB248_230 := n10_
               have NB247_248 := n11_
               have NB248_247 := n12_
               clear n0_ n1_ n2_ n3_ n4_ n5_ n6_ n7_ n8_ n9_ n10_ n11_ n12_
               clear hb hbox hg
               refine hK.out _ _ ⟨(blk_cell BK229.out 0).trans rfl, (blk_cell BK229.out 1).trans rfl, (blk_cell BK230.out 0).trans rfl, (blk_cell BK230.out 1).trans rfl⟩ (fun hHeld => ?_)
               clear hK K
               refine norm_ (a' := ?_) ?_ ?_
               rotate_left
               ·
                show Act.put _ (some 6) _ = _
                simp only [Act.put, List.setIfInBounds_toArray, List.set_cons_zero, List.set_cons_succ, i64_w, i32_w]
                rfl
               exact norm_ (by first | (simp only [putAll, Act.put, List.setIfInBounds_toArray, List.set_cons_zero, List.set_cons_succ]; done) | (simp only [putAll, Act.put, List.setIfInBounds_toArray, List.set_cons_zero, List.set_cons_succ]; rfl)) (hJ4_5 (gb247, gb248) _ ⟨hHeld, (by (with_reducible repeat (first | refine blk_drewN ?_ _ | refine blk_drew ?_ | refine blk_alloc ?_ _)); exact BK229.out), (by (with_reducible repeat (first | refine blk_drewN ?_ _ | refine blk_drew ?_ | refine blk_alloc ?_ _)); exact BK230.out), (by (with_reducible repeat (first | refine blk_drewN ?_ _ | refine blk_drew ?_ | refine blk_alloc ?_ _)); exact BK247.out), (by (with_reducible repeat (first | refine blk_drewN ?_ _ | refine blk_drew ?_ | refine blk_alloc ?_ _)); exact BK248.out), GW247.out, GE247.out, NB229_247.out, NB247_229.out, NB230_247.out, NB247_230.out, NB248_247.out, NB247_248.out, GW248.out, GE248.out, NB229_248.out, NB248_229.out, NB230_248.out, NB248_230.out, (by repeat (first | (with_reducible first | exact HB.out | apply below_alloc | apply pw_below_drewN | apply below_drew1 | refine below_set ?_ GE229.out | refine below_set ?_ GE230.out | refine below_set ?_ GE247.out | refine below_set ?_ GE248.out) | exact HB.out))⟩)
            ·
             skip
             rintro _ w23 ⟨hS_, h0_, h1_, h2_⟩
             have n0_ : Aside0 (w23.heap[gb229]? = some (.cells #[.int .u64 a0_0, .int .u64 a0_1] 25 (0, 0))) := ⟨h0_⟩
             have n1_ : Aside0 (w23.heap[gb230]? = some (.cells #[.int .u64 a1_0, .int .u64 a1_1] 25 (0, 0))) := ⟨h1_⟩
             have n2_ : Aside0 (Below w.heap.size w w23) := ⟨h2_⟩
             clear BK229
             clear BK230
             clear HB
             clear h0_ h1_ h2_
             have BK229 := n0_
             have BK230 := n1_
             have HB := n2_
             clear n0_ n1_ n2_
             have hHeld : w23.cell? ⟨gb229, 0, none⟩ = some (.int .u64 a0_0) ∧ w23.cell? ⟨gb229, 1, none⟩ = some (.int .u64 a0_1) ∧ w23.cell? ⟨gb230, 0, none⟩ = some (.int .u64 a1_0) ∧ w23.cell? ⟨gb230, 1, none⟩ = some (.int .u64 a1_1) := hS_
             refine norm_ (a' := ?_) ?_ ?_
             rotate_left
             ·
              simp only [putAll, Act.put, List.setIfInBounds_toArray, List.set_cons_zero, List.set_cons_succ]
              rfl
             refine three_ (i := 3) (j := 4) (k := 5) (Ni := some 10) (Nj := some 5) (Nk := some 6) #[T, T, T, T, F, F, F, F] #[T, T, T, F, T, F, F, F] #[T, T, T, F, F, T, F, F] rfl rfl rfl rfl rfl rfl (three_of HT_.out (by kernel_rfl)) (by decide) (by decide) (by decide) (fun K hK => ?_) (fun K hK => ?_) (fun K hK => ?_)
             ·
              skip
              refine goes_ Try.func11 (by kernel_rfl) rfl #[.agg #[.int .u64 a1_0, .int .u64 a1_1]] (by rfl) rfl rfl (by (try simp only [List.map_toArray, List.map_cons, List.map_nil]); first | done | rfl | (simp only [List.length_drop, List.length_take]; rfl)) ?_
              with_reducible refine (offertoryref09_Of.calls a1_0 a1_1 t239 t240 t241 t242 t243 t244 t245 t246 _ A4.out).mono ?_
              rintro e w24 ⟨rfl, hb⟩
              refine ⟨_, rfl, ?_⟩
              have n0_ := Aside0.mk (blk_below (g := gb229) (o := .cells #[.int .u64 a0_0, .int .u64 a0_1] 25 (0, 0)) (by (with_reducible repeat (first | refine blk_drewN ?_ _ | refine blk_drew ?_ | refine blk_alloc ?_ _)); exact BK229.out) hb)
              have n1_ := Aside0.mk (blk_below (g := gb230) (o := .cells #[.int .u64 a1_0, .int .u64 a1_1] 25 (0, 0)) (by (with_reducible repeat (first | refine blk_drewN ?_ _ | refine blk_drew ?_ | refine blk_alloc ?_ _)); exact BK230.out) hb)
              have n2_ := Aside0.mk (below_step (by repeat (first | (with_reducible first | exact HB.out | apply below_alloc | apply pw_below_drewN | apply below_drew1 | refine below_set ?_ GE229.out | refine below_set ?_ GE230.out) | exact HB.out)) hb)
              clear BK229
              clear BK230
              clear HB
              have BK229 := n0_
              have BK230 := n1_
              have HB := n2_
              clear n0_ n1_ n2_
              (try clear hb)
              (try clear hb2)
              (try clear hk)
              (try clear hi)
              refine hK.out _ _ ⟨(blk_cell BK229.out 0).trans rfl, (blk_cell BK229.out 1).trans rfl, (blk_cell BK230.out 0).trans rfl, (blk_cell BK230.out 1).trans rfl⟩ (fun hHeld => ?_)
              clear hK K
              refine norm_ (a' := ?_) ?_ ?_
              rotate_left
              ·
               show Act.put _ (some 10) _ = _
               simp only [Act.put, List.setIfInBounds_toArray, List.set_cons_zero, List.set_cons_succ, i64_w, i32_w]
               rfl
              exact norm_ (by first | (simp only [putAll, Act.put, List.setIfInBounds_toArray, List.set_cons_zero, List.set_cons_succ]; done) | (simp only [putAll, Act.put, List.setIfInBounds_toArray, List.set_cons_zero, List.set_cons_succ]; rfl)) (hJ1_3 () _ ⟨hHeld, (by (with_reducible repeat (first | refine blk_drewN ?_ _ | refine blk_drew ?_ | refine blk_alloc ?_ _)); exact BK229.out), (by (with_reducible repeat (first | refine blk_drewN ?_ _ | refine blk_drew ?_ | refine blk_alloc ?_ _)); exact BK230.out), (by repeat (first | (with_reducible first | exact HB.out | apply below_alloc | apply pw_below_drewN | apply below_drew1 | refine below_set ?_ GE229.out | refine below_set ?_ GE230.out) | exact HB.out))⟩)
             ·
              skip
              refine box_step ?hg (N := 5) ?hd (cs := #[.int .u32 0, .int .u32 0, .int .u32 0, .int .u32 0, .int .u32 0, .int .u32 0, .int .u32 0, .int .u32 0]) (t := 29) ?hr ?_; (case hd => rfl); (case hg => rfl); (case hr => first | (go_simp; done) | (go_simp; rfl))
              intro gb247 hg w24 hbox hb
              have n0_ := Aside0.mk (blk_below (g := gb229) (o := .cells #[.int .u64 a0_0, .int .u64 a0_1] 25 (0, 0)) (by (with_reducible repeat (first | refine blk_drewN ?_ _ | refine blk_drew ?_ | refine blk_alloc ?_ _)); exact BK229.out) hb)
              have n1_ := Aside0.mk (blk_below (g := gb230) (o := .cells #[.int .u64 a1_0, .int .u64 a1_1] 25 (0, 0)) (by (with_reducible repeat (first | refine blk_drewN ?_ _ | refine blk_drew ?_ | refine blk_alloc ?_ _)); exact BK230.out) hb)
              have n2_ := Aside0.mk (below_step (by repeat (first | (with_reducible first | exact HB.out | apply below_alloc | apply pw_below_drewN | apply below_drew1 | refine below_set ?_ GE229.out | refine below_set ?_ GE230.out) | exact HB.out)) hb)
              have n3_ := Aside0.mk (hbox)
              have n4_ := Aside0.mk ((by rw [hg]; exact (below_size (by repeat (first | (with_reducible first | exact HB.out | apply below_alloc | apply pw_below_drewN | apply below_drew1 | refine below_set ?_ GE229.out | refine below_set ?_ GE230.out) | exact HB.out))) : w.heap.size ≤ gb247))
              have n5_ := Aside0.mk ((by rw [hg]; exact (below_size (by repeat (first | (with_reducible first | exact HB.out | apply below_alloc | apply pw_below_drewN | apply below_drew1 | refine below_set ?_ GE229.out | refine below_set ?_ GE230.out) | exact HB.out))) : w.heap.size ≤ gb247))
              have n6_ := Aside0.mk ((by rw [hg]; exact Nat.ne_of_lt (blk_lt (g := gb229) (o := .cells #[.int .u64 a0_0, .int .u64 a0_1] 25 (0, 0)) (by (with_reducible repeat (first | refine blk_drewN ?_ _ | refine blk_drew ?_ | refine blk_alloc ?_ _)); exact BK229.out)) : gb229 ≠ gb247))
              have n7_ := Aside0.mk ((by rw [hg]; exact Nat.ne_of_gt (blk_lt (g := gb229) (o := .cells #[.int .u64 a0_0, .int .u64 a0_1] 25 (0, 0)) (by (with_reducible repeat (first | refine blk_drewN ?_ _ | refine blk_drew ?_ | refine blk_alloc ?_ _)); exact BK229.out)) : gb247 ≠ gb229))
              have n8_ := Aside0.mk ((by rw [hg]; exact Nat.ne_of_lt (blk_lt (g := gb230) (o := .cells #[.int .u64 a1_0, .int .u64 a1_1] 25 (0, 0)) (by (with_reducible repeat (first | refine blk_drewN ?_ _ | refine blk_drew ?_ | refine blk_alloc ?_ _)); exact BK230.out)) : gb230 ≠ gb247))
              have n9_ := Aside0.mk ((by rw [hg]; exact Nat.ne_of_gt (blk_lt (g := gb230) (o := .cells #[.int .u64 a1_0, .int .u64 a1_1] 25 (0, 0)) (by (with_reducible repeat (first | refine blk_drewN ?_ _ | refine blk_drew ?_ | refine blk_alloc ?_ _)); exact BK230.out)) : gb247 ≠ gb230))
              clear BK229
              clear BK230
              clear HB
              have BK229 := n0_
              have BK230 := n1_
              have HB := n2_
              have BK247 := n3_
              have GW247 := n4_
              have GE247 := n5_
              have NB229_247 := n6_
              have NB247_229 := n7_
              have NB230_247 := n8_
              have NB247_230 := n9_
              clear n0_ n1_ n2_ n3_ n4_ n5_ n6_ n7_ n8_ n9_
              clear hb hbox hg
              refine hK.out _ _ ⟨(blk_cell BK229.out 0).trans rfl, (blk_cell BK229.out 1).trans rfl, (blk_cell BK230.out 0).trans rfl, (blk_cell BK230.out 1).trans rfl⟩ (fun hHeld => ?_)
              clear hK K
              refine norm_ (a' := ?_) ?_ ?_
              rotate_left
              ·
               show Act.put _ (some 5) _ = _
               simp only [Act.put, List.setIfInBounds_toArray, List.set_cons_zero, List.set_cons_succ, i64_w, i32_w]
               rfl
              exact norm_ (by first | (simp only [putAll, Act.put, List.setIfInBounds_toArray, List.set_cons_zero, List.set_cons_succ]; done) | (simp only [putAll, Act.put, List.setIfInBounds_toArray, List.set_cons_zero, List.set_cons_succ]; rfl)) (hJ1_4 (gb247) _ ⟨hHeld, (by (with_reducible repeat (first | refine blk_drewN ?_ _ | refine blk_drew ?_ | refine blk_alloc ?_ _)); exact BK229.out), (by (with_reducible repeat (first | refine blk_drewN ?_ _ | refine blk_drew ?_ | refine blk_alloc ?_ _)); exact BK230.out), (by (with_reducible repeat (first | refine blk_drewN ?_ _ | refine blk_drew ?_ | refine blk_alloc ?_ _)); exact BK247.out), GW247.out, GE247.out, NB229_247.out, NB247_229.out, NB230_247.out, NB247_230.out, (by repeat (first | (with_reducible first | exact HB.out | apply below_alloc | apply pw_below_drewN | apply below_drew1 | refine below_set ?_ GE229.out | refine below_set ?_ GE230.out | refine below_set ?_ GE247.out) | exact HB.out))⟩)
             ·
              skip
              refine box_step ?hg (N := 6) ?hd (cs := #[.int .u32 0, .int .u32 0, .int .u32 0, .int .u32 0, .int .u32 0, .int .u32 0, .int .u32 0, .int .u32 0]) (t := 29) ?hr ?_; (case hd => rfl); (case hg => rfl); (case hr => first | (go_simp; done) | (go_simp; rfl))
              intro gb248 hg w24 hbox hb
              have n0_ := Aside0.mk (blk_below (g := gb229) (o := .cells #[.int .u64 a0_0, .int .u64 a0_1] 25 (0, 0)) (by (with_reducible repeat (first | refine blk_drewN ?_ _ | refine blk_drew ?_ | refine blk_alloc ?_ _)); exact BK229.out) hb)
              have n1_ := Aside0.mk (blk_below (g := gb230) (o := .cells #[.int .u64 a1_0, .int .u64 a1_1] 25 (0, 0)) (by (with_reducible repeat (first | refine blk_drewN ?_ _ | refine blk_drew ?_ | refine blk_alloc ?_ _)); exact BK230.out) hb)
              have n2_ := Aside0.mk (below_step (by repeat (first | (with_reducible first | exact HB.out | apply below_alloc | apply pw_below_drewN | apply below_drew1 | refine below_set ?_ GE229.out | refine below_set ?_ GE230.out) | exact HB.out)) hb)
              have n3_ := Aside0.mk (hbox)
              have n4_ := Aside0.mk ((by rw [hg]; exact (below_size (by repeat (first | (with_reducible first | exact HB.out | apply below_alloc | apply pw_below_drewN | apply below_drew1 | refine below_set ?_ GE229.out | refine below_set ?_ GE230.out) | exact HB.out))) : w.heap.size ≤ gb248))
              have n5_ := Aside0.mk ((by rw [hg]; exact (below_size (by repeat (first | (with_reducible first | exact HB.out | apply below_alloc | apply pw_below_drewN | apply below_drew1 | refine below_set ?_ GE229.out | refine below_set ?_ GE230.out) | exact HB.out))) : w.heap.size ≤ gb248))
              have n6_ := Aside0.mk ((by rw [hg]; exact Nat.ne_of_lt (blk_lt (g := gb229) (o := .cells #[.int .u64 a0_0, .int .u64 a0_1] 25 (0, 0)) (by (with_reducible repeat (first | refine blk_drewN ?_ _ | refine blk_drew ?_ | refine blk_alloc ?_ _)); exact BK229.out)) : gb229 ≠ gb248))
              have n7_ := Aside0.mk ((by rw [hg]; exact Nat.ne_of_gt (blk_lt (g := gb229) (o := .cells #[.int .u64 a0_0, .int .u64 a0_1] 25 (0, 0)) (by (with_reducible repeat (first | refine blk_drewN ?_ _ | refine blk_drew ?_ | refine blk_alloc ?_ _)); exact BK229.out)) : gb248 ≠ gb229))
              have n8_ := Aside0.mk ((by rw [hg]; exact Nat.ne_of_lt (blk_lt (g := gb230) (o := .cells #[.int .u64 a1_0, .int .u64 a1_1] 25 (0, 0)) (by (with_reducible repeat (first | refine blk_drewN ?_ _ | refine blk_drew ?_ | refine blk_alloc ?_ _)); exact BK230.out)) : gb230 ≠ gb248))
              have n9_ := Aside0.mk ((by rw [hg]; exact Nat.ne_of_gt (blk_lt (g := gb230) (o := .cells #[.int .u64 a1_0, .int .u64 a1_1] 25 (0, 0)) (by (with_reducible repeat (first | refine blk_drewN ?_ _ | refine blk_drew ?_ | refine blk_alloc ?_ _)); exact BK230.out)) : gb248 ≠ gb230))
              clear BK229
              clear BK230
              clear HB
              have BK229 := n0_
              have BK230 := n1_
              have HB := n2_
              have BK248 := n3_
              have GW248 := n4_
              have GE248 := n5_
              have NB229_248 := n6_
              have NB248_229 := n7_
              have NB230_248 := n8_
              have NB248_230 := n9_
              clear n0_ n1_ n2_ n3_ n4_ n5_ n6_ n7_ n8_ n9_
              clear hb hbox hg
              refine hK.out _ _ ⟨(blk_cell BK229.out 0).trans rfl, (blk_cell BK229.out 1).trans rfl, (blk_cell BK230.out 0).trans rfl, (blk_cell BK230.out 1).trans rfl⟩ (fun hHeld => ?_)
              clear hK K
              refine norm_ (a' := ?_) ?_ ?_
              rotate_left
              ·
               show Act.put _ (some 6) _ = _
               simp only [Act.put, List.setIfInBounds_toArray, List.set_cons_zero, List.set_cons_succ, i64_w, i32_w]
               rfl
              exact norm_ (by first | (simp only [putAll, Act.put, List.setIfInBounds_toArray, List.set_cons_zero, List.set_cons_succ]; done) | (simp only [putAll, Act.put, List.setIfInBounds_toArray, List.set_cons_zero, List.set_cons_succ]; rfl)) (hJ1_5 (gb248) _ ⟨hHeld, (by (with_reducible repeat (first | refine blk_drewN ?_ _ | refine blk_drew ?_ | refine blk_alloc ?_ _)); exact BK229.out), (by (with_reducible repeat (first | refine blk_drewN ?_ _ | refine blk_drew ?_ | refine blk_alloc ?_ _)); exact BK230.out), (by (with_reducible repeat (first | refine blk_drewN ?_ _ | refine blk_drew ?_ | refine blk_alloc ?_ _)); exact BK248.out), GW248.out, GE248.out, NB229_248.out, NB248_229.out, NB230_248.out, NB248_230.out, (by repeat (first | (with_reducible first | exact HB.out | apply below_alloc | apply pw_below_drewN | apply below_drew1 | refine below_set ?_ GE229.out | refine below_set ?_ GE230.out | refine below_set ?_ GE248.out) | exact HB.out))⟩)
           ·
            skip
            rintro ⟨gb247, gb248⟩ w24 ⟨hS_, h0_, h1_, h2_, h3_, h4_, h5_, h6_, h7_, h8_, h9_, h10_, h11_, h12_, h13_, h14_, h15_, h16_, h17_, h18_⟩
            have n0_ : Aside0 (w24.heap[gb229]? = some (.cells #[.int .u64 a0_0, .int .u64 a0_1] 25 (0, 0))) := ⟨h0_⟩
            have n1_ : Aside0 (w24.heap[gb230]? = some (.cells #[.int .u64 a1_0, .int .u64 a1_1] 25 (0, 0))) := ⟨h1_⟩
            have n2_ : Aside0 (w24.heap[gb247]? = some (.cells #[.int .u32 0, .int .u32 0, .int .u32 0, .int .u32 0, .int .u32 0, .int .u32 0, .int .u32 0, .int .u32 0] 29 (0, 0))) := ⟨h2_⟩
            have n3_ : Aside0 (w24.heap[gb248]? = some (.cells #[.int .u32 0, .int .u32 0, .int .u32 0, .int .u32 0, .int .u32 0, .int .u32 0, .int .u32 0, .int .u32 0] 29 (0, 0))) := ⟨h3_⟩
            have n4_ : Aside0 (w.heap.size ≤ gb247) := ⟨h4_⟩
            have n5_ : Aside0 (w.heap.size ≤ gb247) := ⟨h5_⟩
            have n6_ : Aside0 (gb229 ≠ gb247) := ⟨h6_⟩
            have n7_ : Aside0 (gb247 ≠ gb229) := ⟨h7_⟩
            have n8_ : Aside0 (gb230 ≠ gb247) := ⟨h8_⟩
            have n9_ : Aside0 (gb247 ≠ gb230) := ⟨h9_⟩
            have n10_ : Aside0 (gb248 ≠ gb247) := ⟨h10_⟩
            have n11_ : Aside0 (gb247 ≠ gb248) := ⟨h11_⟩
            have n12_ : Aside0 (w.heap.size ≤ gb248) := ⟨h12_⟩
            have n13_ : Aside0 (w.heap.size ≤ gb248) := ⟨h13_⟩
            have n14_ : Aside0 (gb229 ≠ gb248) := ⟨h14_⟩
            have n15_ : Aside0 (gb248 ≠ gb229) := ⟨h15_⟩
            have n16_ : Aside0 (gb230 ≠ gb248) := ⟨h16_⟩
            have n17_ : Aside0 (gb248 ≠ gb230) := ⟨h17_⟩
            have n18_ : Aside0 (Below w.heap.size w w24) := ⟨h18_⟩
            clear BK229
            clear BK230
            clear HB
            clear h0_ h1_ h2_ h3_ h4_ h5_ h6_ h7_ h8_ h9_ h10_ h11_ h12_ h13_ h14_ h15_ h16_ h17_ h18_
            have BK229 := n0_
            have BK230 := n1_
            have BK247 := n2_
            have BK248 := n3_
            have GW247 := n4_
            have GE247 := n5_
            have NB229_247 := n6_
            have NB247_229 := n7_
            have NB230_247 := n8_
            have NB247_230 := n9_
            have NB248_247 := n10_
            have NB247_248 := n11_
            have GW248 := n12_
            have GE248 := n13_
            have NB229_248 := n14_
            have NB248_229 := n15_
            have NB230_248 := n16_
            have NB248_230 := n17_
            have HB := n18_
            clear n0_ n1_ n2_ n3_ n4_ n5_ n6_ n7_ n8_ n9_ n10_ n11_ n12_ n13_ n14_ n15_ n16_ n17_ n18_
            have hHeld : w24.cell? ⟨gb229, 0, none⟩ = some (.int .u64 a0_0) ∧ w24.cell? ⟨gb229, 1, none⟩ = some (.int .u64 a0_1) ∧ w24.cell? ⟨gb230, 0, none⟩ = some (.int .u64 a1_0) ∧ w24.cell? ⟨gb230, 1, none⟩ = some (.int .u64 a1_1) := hS_
            refine norm_ (a' := ?_) ?_ ?_
            rotate_left
            ·
             simp only [putAll, Act.put, List.setIfInBounds_toArray, List.set_cons_zero, List.set_cons_succ]
             rfl
            refine one_ (i := 1) (N := some 8) #[T, T, T, F, T, T, F, F] rfl rfl (one_of HT_.out (by kernel_rfl)) (by decide) (fun K hK => ?_)
            refine goes_ Try.func11 (by kernel_rfl) rfl #[.agg #[.int .u64 a0_0, .int .u64 a0_1]] (by rfl) rfl rfl (by (try simp only [List.map_toArray, List.map_cons, List.map_nil]); first | done | rfl | (simp only [List.length_drop, List.length_take]; rfl)) ?_
            with_reducible refine (offertoryref09_Of.calls a0_0 a0_1 t231 t232 t233 t234 t235 t236 t237 t238 _ A3.out).mono ?_
            rintro e w25 ⟨rfl, hb⟩
            refine ⟨_, rfl, ?_⟩
            have n0_ := Aside0.mk (blk_below (g := gb229) (o := .cells #[.int .u64 a0_0, .int .u64 a0_1] 25 (0, 0)) (by (with_reducible repeat (first | refine blk_drewN ?_ _ | refine blk_drew ?_ | refine blk_alloc ?_ _)); exact BK229.out) hb)
            have n1_ := Aside0.mk (blk_below (g := gb230) (o := .cells #[.int .u64 a1_0, .int .u64 a1_1] 25 (0, 0)) (by (with_reducible repeat (first | refine blk_drewN ?_ _ | refine blk_drew ?_ | refine blk_alloc ?_ _)); exact BK230.out) hb)
            have n2_ := Aside0.mk (blk_below (g := gb247) (o := .cells #[.int .u32 0, .int .u32 0, .int .u32 0, .int .u32 0, .int .u32 0, .int .u32 0, .int .u32 0, .int .u32 0] 29 (0, 0)) (by (with_reducible repeat (first | refine blk_drewN ?_ _ | refine blk_drew ?_ | refine blk_alloc ?_ _)); exact BK247.out) hb)
            have n3_ := Aside0.mk (blk_below (g := gb248) (o := .cells #[.int .u32 0, .int .u32 0, .int .u32 0, .int .u32 0, .int .u32 0, .int .u32 0, .int .u32 0, .int .u32 0] 29 (0, 0)) (by (with_reducible repeat (first | refine blk_drewN ?_ _ | refine blk_drew ?_ | refine blk_alloc ?_ _)); exact BK248.out) hb)
            have n4_ := Aside0.mk (below_step (by repeat (first | (with_reducible first | exact HB.out | apply below_alloc | apply pw_below_drewN | apply below_drew1 | refine below_set ?_ GE229.out | refine below_set ?_ GE230.out | refine below_set ?_ GE247.out | refine below_set ?_ GE248.out) | exact HB.out)) hb)
            clear BK229
            clear BK230
            clear BK247
            clear BK248
            clear HB
            have BK229 := n0_
            have BK230 := n1_
            have BK247 := n2_
            have BK248 := n3_
            have HB := n4_
            clear n0_ n1_ n2_ n3_ n4_
            (try clear hb)
            (try clear hb2)
            (try clear hk)
            (try clear hi)
            refine hK.out _ _ ⟨(blk_cell BK229.out 0).trans rfl, (blk_cell BK229.out 1).trans rfl, (blk_cell BK230.out 0).trans rfl, (blk_cell BK230.out 1).trans rfl⟩ (fun hHeld => ?_)
            clear hK K
            refine norm_ (a' := ?_) ?_ ?_
            rotate_left
            ·
             show Act.put _ (some 8) _ = _
             simp only [Act.put, List.setIfInBounds_toArray, List.set_cons_zero, List.set_cons_succ, i64_w, i32_w]
             rfl
            exact norm_ (by first | (simp only [putAll, Act.put, List.setIfInBounds_toArray, List.set_cons_zero, List.set_cons_succ]; done) | (simp only [putAll, Act.put, List.setIfInBounds_toArray, List.set_cons_zero, List.set_cons_succ]; rfl)) (hJ1_4_5 (gb247, gb248) _ ⟨hHeld, (by (with_reducible repeat (first | refine blk_drewN ?_ _ | refine blk_drew ?_ | refine blk_alloc ?_ _)); exact BK229.out), (by (with_reducible repeat (first | refine blk_drewN ?_ _ | refine blk_drew ?_ | refine blk_alloc ?_ _)); exact BK230.out), (by (with_reducible repeat (first | refine blk_drewN ?_ _ | refine blk_drew ?_ | refine blk_alloc ?_ _)); exact BK247.out), (by (with_reducible repeat (first | refine blk_drewN ?_ _ | refine blk_drew ?_ | refine blk_alloc ?_ _)); exact BK248.out), GW247.out, GE247.out, NB229_247.out, NB247_229.out, NB230_247.out, NB247_230.out, NB248_247.out, NB247_248.out, GW248.out, GE248.out, NB229_248.out, NB248_229.out, NB230_248.out, NB248_230.out, (by repeat (first | (with_reducible first | exact HB.out | apply below_alloc | apply pw_below_drewN | apply below_drew1 | refine below_set ?_ GE229.out | refine below_set ?_ GE230.out | refine below_set ?_ GE247.out | refine below_set ?_ GE248.out) | exact HB.out))⟩)
          ·
           skip
           rintro gb248 w24 ⟨hS_, h0_, h1_, h2_, h3_, h4_, h5_, h6_, h7_, h8_, h9_⟩
           have n0_ : Aside0 (w24.heap[gb229]? = some (.cells #[.int .u64 a0_0, .int .u64 a0_1] 25 (0, 0))) := ⟨h0_⟩
           have n1_ : Aside0 (w24.heap[gb230]? = some (.cells #[.int .u64 a1_0, .int .u64 a1_1] 25 (0, 0))) := ⟨h1_⟩
           have n2_ : Aside0 (w24.heap[gb248]? = some (.cells #[.int .u32 0, .int .u32 0, .int .u32 0, .int .u32 0, .int .u32 0, .int .u32 0, .int .u32 0, .int .u32 0] 29 (0, 0))) := ⟨h2_⟩
           have n3_ : Aside0 (w.heap.size ≤ gb248) := ⟨h3_⟩
           have n4_ : Aside0 (w.heap.size ≤ gb248) := ⟨h4_⟩
           have n5_ : Aside0 (gb229 ≠ gb248) := ⟨h5_⟩
           have n6_ : Aside0 (gb248 ≠ gb229) := ⟨h6_⟩
           have n7_ : Aside0 (gb230 ≠ gb248) := ⟨h7_⟩
           have n8_ : Aside0 (gb248 ≠ gb230) := ⟨h8_⟩
           have n9_ : Aside0 (Below w.heap.size w w24) := ⟨h9_⟩
           clear BK229
           clear BK230
           clear HB
           clear h0_ h1_ h2_ h3_ h4_ h5_ h6_ h7_ h8_ h9_
           have BK229 := n0_
           have BK230 := n1_
           have BK248 := n2_
           have GW248 := n3_
           have GE248 := n4_
           have NB229_248 := n5_
           have NB248_229 := n6_
           have NB230_248 := n7_
           have NB248_230 := n8_
           have HB := n9_
           clear n0_ n1_ n2_ n3_ n4_ n5_ n6_ n7_ n8_ n9_
           have hHeld : w24.cell? ⟨gb229, 0, none⟩ = some (.int .u64 a0_0) ∧ w24.cell? ⟨gb229, 1, none⟩ = some (.int .u64 a0_1) ∧ w24.cell? ⟨gb230, 0, none⟩ = some (.int .u64 a1_0) ∧ w24.cell? ⟨gb230, 1, none⟩ = some (.int .u64 a1_1) := hS_
           refine norm_ (a' := ?_) ?_ ?_
           rotate_left
           ·
            simp only [putAll, Act.put, List.setIfInBounds_toArray, List.set_cons_zero, List.set_cons_succ]
            rfl
           refine two_ (i := 3) (j := 4) (Ni := some 10) (Nj := some 5) #[T, T, T, T, F, T, F, F] #[T, T, T, F, T, T, F, F] rfl rfl rfl rfl (two_of HT_.out (by kernel_rfl)) (by decide) (by decide) (fun K hK => ?_) (fun K hK => ?_)
           ·
            skip
            refine goes_ Try.func11 (by kernel_rfl) rfl #[.agg #[.int .u64 a1_0, .int .u64 a1_1]] (by rfl) rfl rfl (by (try simp only [List.map_toArray, List.map_cons, List.map_nil]); first | done | rfl | (simp only [List.length_drop, List.length_take]; rfl)) ?_
            with_reducible refine (offertoryref09_Of.calls a1_0 a1_1 t239 t240 t241 t242 t243 t244 t245 t246 _ A4.out).mono ?_
            rintro e w25 ⟨rfl, hb⟩
            refine ⟨_, rfl, ?_⟩
            have n0_ := Aside0.mk (blk_below (g := gb229) (o := .cells #[.int .u64 a0_0, .int .u64 a0_1] 25 (0, 0)) (by (with_reducible repeat (first | refine blk_drewN ?_ _ | refine blk_drew ?_ | refine blk_alloc ?_ _)); exact BK229.out) hb)
            have n1_ := Aside0.mk (blk_below (g := gb230) (o := .cells #[.int .u64 a1_0, .int .u64 a1_1] 25 (0, 0)) (by (with_reducible repeat (first | refine blk_drewN ?_ _ | refine blk_drew ?_ | refine blk_alloc ?_ _)); exact BK230.out) hb)
            have n2_ := Aside0.mk (blk_below (g := gb248) (o := .cells #[.int .u32 0, .int .u32 0, .int .u32 0, .int .u32 0, .int .u32 0, .int .u32 0, .int .u32 0, .int .u32 0] 29 (0, 0)) (by (with_reducible repeat (first | refine blk_drewN ?_ _ | refine blk_drew ?_ | refine blk_alloc ?_ _)); exact BK248.out) hb)
            have n3_ := Aside0.mk (below_step (by repeat (first | (with_reducible first | exact HB.out | apply below_alloc | apply pw_below_drewN | apply below_drew1 | refine below_set ?_ GE229.out | refine below_set ?_ GE230.out | refine below_set ?_ GE248.out) | exact HB.out)) hb)
            clear BK229
            clear BK230
            clear BK248
            clear HB
            have BK229 := n0_
            have BK230 := n1_
            have BK248 := n2_
            have HB := n3_
            clear n0_ n1_ n2_ n3_
            (try clear hb)
            (try clear hb2)
            (try clear hk)
            (try clear hi)
            refine hK.out _ _ ⟨(blk_cell BK229.out 0).trans rfl, (blk_cell BK229.out 1).trans rfl, (blk_cell BK230.out 0).trans rfl, (blk_cell BK230.out 1).trans rfl⟩ (fun hHeld => ?_)
            clear hK K
            refine norm_ (a' := ?_) ?_ ?_
            rotate_left
            ·
             show Act.put _ (some 10) _ = _
             simp only [Act.put, List.setIfInBounds_toArray, List.set_cons_zero, List.set_cons_succ, i64_w, i32_w]
             rfl
            exact norm_ (by first | (simp only [putAll, Act.put, List.setIfInBounds_toArray, List.set_cons_zero, List.set_cons_succ]; done) | (simp only [putAll, Act.put, List.setIfInBounds_toArray, List.set_cons_zero, List.set_cons_succ]; rfl)) (hJ1_3_5 (gb248) _ ⟨hHeld, (by (with_reducible repeat (first | refine blk_drewN ?_ _ | refine blk_drew ?_ | refine blk_alloc ?_ _)); exact BK229.out), (by (with_reducible repeat (first | refine blk_drewN ?_ _ | refine blk_drew ?_ | refine blk_alloc ?_ _)); exact BK230.out), (by (with_reducible repeat (first | refine blk_drewN ?_ _ | refine blk_drew ?_ | refine blk_alloc ?_ _)); exact BK248.out), GW248.out, GE248.out, NB229_248.out, NB248_229.out, NB230_248.out, NB248_230.out, (by repeat (first | (with_reducible first | exact HB.out | apply below_alloc | apply pw_below_drewN | apply below_drew1 | refine below_set ?_ GE229.out | refine below_set ?_ GE230.out | refine below_set ?_ GE248.out) | exact HB.out))⟩)
           ·
            skip
            refine box_step ?hg (N := 5) ?hd (cs := #[.int .u32 0, .int .u32 0, .int .u32 0, .int .u32 0, .int .u32 0, .int .u32 0, .int .u32 0, .int .u32 0]) (t := 29) ?hr ?_; (case hd => rfl); (case hg => rfl); (case hr => first | (go_simp; done) | (go_simp; rfl))
            intro gb247 hg w25 hbox hb
            have n0_ := Aside0.mk (blk_below (g := gb229) (o := .cells #[.int .u64 a0_0, .int .u64 a0_1] 25 (0, 0)) (by (with_reducible repeat (first | refine blk_drewN ?_ _ | refine blk_drew ?_ | refine blk_alloc ?_ _)); exact BK229.out) hb)
            have n1_ := Aside0.mk (blk_below (g := gb230) (o := .cells #[.int .u64 a1_0, .int .u64 a1_1] 25 (0, 0)) (by (with_reducible repeat (first | refine blk_drewN ?_ _ | refine blk_drew ?_ | refine blk_alloc ?_ _)); exact BK230.out) hb)
            have n2_ := Aside0.mk (blk_below (g := gb248) (o := .cells #[.int .u32 0, .int .u32 0, .int .u32 0, .int .u32 0, .int .u32 0, .int .u32 0, .int .u32 0, .int .u32 0] 29 (0, 0)) (by (with_reducible repeat (first | refine blk_drewN ?_ _ | refine blk_drew ?_ | refine blk_alloc ?_ _)); exact BK248.out) hb)
            have n3_ := Aside0.mk (below_step (by repeat (first | (with_reducible first | exact HB.out | apply below_alloc | apply pw_below_drewN | apply below_drew1 | refine below_set ?_ GE229.out | refine below_set ?_ GE230.out | refine below_set ?_ GE248.out) | exact HB.out)) hb)
            have n4_ := Aside0.mk (hbox)
            have n5_ := Aside0.mk ((by rw [hg]; exact (below_size (by repeat (first | (with_reducible first | exact HB.out | apply below_alloc | apply pw_below_drewN | apply below_drew1 | refine below_set ?_ GE229.out | refine below_set ?_ GE230.out | refine below_set ?_ GE248.out) | exact HB.out))) : w.heap.size ≤ gb247))
            have n6_ := Aside0.mk ((by rw [hg]; exact (below_size (by repeat (first | (with_reducible first | exact HB.out | apply below_alloc | apply pw_below_drewN | apply below_drew1 | refine below_set ?_ GE229.out | refine below_set ?_ GE230.out | refine below_set ?_ GE248.out) | exact HB.out))) : w.heap.size ≤ gb247))
            have n7_ := Aside0.mk ((by rw [hg]; exact Nat.ne_of_lt (blk_lt (g := gb229) (o := .cells #[.int .u64 a0_0, .int .u64 a0_1] 25 (0, 0)) (by (with_reducible repeat (first | refine blk_drewN ?_ _ | refine blk_drew ?_ | refine blk_alloc ?_ _)); exact BK229.out)) : gb229 ≠ gb247))
            have n8_ := Aside0.mk ((by rw [hg]; exact Nat.ne_of_gt (blk_lt (g := gb229) (o := .cells #[.int .u64 a0_0, .int .u64 a0_1] 25 (0, 0)) (by (with_reducible repeat (first | refine blk_drewN ?_ _ | refine blk_drew ?_ | refine blk_alloc ?_ _)); exact BK229.out)) : gb247 ≠ gb229))
            have n9_ := Aside0.mk ((by rw [hg]; exact Nat.ne_of_lt (blk_lt (g := gb230) (o := .cells #[.int .u64 a1_0, .int .u64 a1_1] 25 (0, 0)) (by (with_reducible repeat (first | refine blk_drewN ?_ _ | refine blk_drew ?_ | refine blk_alloc ?_ _)); exact BK230.out)) : gb230 ≠ gb247))
            have n10_ := Aside0.mk ((by rw [hg]; exact Nat.ne_of_gt (blk_lt (g := gb230) (o := .cells #[.int .u64 a1_0, .int .u64 a1_1] 25 (0, 0)) (by (with_reducible repeat (first | refine blk_drewN ?_ _ | refine blk_drew ?_ | refine blk_alloc ?_ _)); exact BK230.out)) : gb247 ≠ gb230))
            have n11_ := Aside0.mk ((by rw [hg]; exact Nat.ne_of_lt (blk_lt (g := gb248) (o := .cells #[.int .u32 0, .int .u32 0, .int .u32 0, .int .u32 0, .int .u32 0, .int .u32 0, .int .u32 0, .int .u32 0] 29 (0, 0)) (by (with_reducible repeat (first | refine blk_drewN ?_ _ | refine blk_drew ?_ | refine blk_alloc ?_ _)); exact BK248.out)) : gb248 ≠ gb247))
            have n12_ := Aside0.mk ((by rw [hg]; exact Nat.ne_of_gt (blk_lt (g := gb248) (o := .cells #[.int .u32 0, .int .u32 0, .int .u32 0, .int .u32 0, .int .u32 0, .int .u32 0, .int .u32 0, .int .u32 0] 29 (0, 0)) (by (with_reducible repeat (first | refine blk_drewN ?_ _ | refine blk_drew ?_ | refine blk_alloc ?_ _)); exact BK248.out)) : gb247 ≠ gb248))
            clear BK229
            clear BK230
            clear BK248
            clear HB
            have BK229 := n0_
            have BK230 := n1_
            have BK248 := n2_
            have HB := n3_
            have BK247 := n4_
            have GW247 := n5_
            have GE247 := n6_
            have NB229_247 := n7_
            have NB247_229 := n8_
            have NB230_247 := n9_
            have NB247_230 := n10_
            have NB248_247 := n11_
            have NB247_248 := n12_
            clear n0_ n1_ n2_ n3_ n4_ n5_ n6_ n7_ n8_ n9_ n10_ n11_ n12_
            clear hb hbox hg
            refine hK.out _ _ ⟨(blk_cell BK229.out 0).trans rfl, (blk_cell BK229.out 1).trans rfl, (blk_cell BK230.out 0).trans rfl, (blk_cell BK230.out 1).trans rfl⟩ (fun hHeld => ?_)
            clear hK K
            refine norm_ (a' := ?_) ?_ ?_
            rotate_left
            ·
             show Act.put _ (some 5) _ = _
             simp only [Act.put, List.setIfInBounds_toArray, List.set_cons_zero, List.set_cons_succ, i64_w, i32_w]
             rfl
            exact norm_ (by first | (simp only [putAll, Act.put, List.setIfInBounds_toArray, List.set_cons_zero, List.set_cons_succ]; done) | (simp only [putAll, Act.put, List.setIfInBounds_toArray, List.set_cons_zero, List.set_cons_succ]; rfl)) (hJ1_4_5 (gb247, gb248) _ ⟨hHeld, (by (with_reducible repeat (first | refine blk_drewN ?_ _ | refine blk_drew ?_ | refine blk_alloc ?_ _)); exact BK229.out), (by (with_reducible repeat (first | refine blk_drewN ?_ _ | refine blk_drew ?_ | refine blk_alloc ?_ _)); exact BK230.out), (by (with_reducible repeat (first | refine blk_drewN ?_ _ | refine blk_drew ?_ | refine blk_alloc ?_ _)); exact BK247.out), (by (with_reducible repeat (first | refine blk_drewN ?_ _ | refine blk_drew ?_ | refine blk_alloc ?_ _)); exact BK248.out), GW247.out, GE247.out, NB229_247.out, NB247_229.out, NB230_247.out, NB247_230.out, NB248_247.out, NB247_248.out, GW248.out, GE248.out, NB229_248.out, NB248_229.out, NB230_248.out, NB248_230.out, (by repeat (first | (with_reducible first | exact HB.out | apply below_alloc | apply pw_below_drewN | apply below_drew1 | refine below_set ?_ GE229.out | refine below_set ?_ GE230.out | refine below_set ?_ GE248.out | refine below_set ?_ GE247.out) | exact HB.out))⟩)
         ·
          skip
          rintro gb247 w24 ⟨hS_, h0_, h1_, h2_, h3_, h4_, h5_, h6_, h7_, h8_, h9_⟩
          have n0_ : Aside0 (w24.heap[gb229]? = some (.cells #[.int .u64 a0_0, .int .u64 a0_1] 25 (0, 0))) := ⟨h0_⟩
          have n1_ : Aside0 (w24.heap[gb230]? = some (.cells #[.int .u64 a1_0, .int .u64 a1_1] 25 (0, 0))) := ⟨h1_⟩
          have n2_ : Aside0 (w24.heap[gb247]? = some (.cells #[.int .u32 0, .int .u32 0, .int .u32 0, .int .u32 0, .int .u32 0, .int .u32 0, .int .u32 0, .int .u32 0] 29 (0, 0))) := ⟨h2_⟩
          have n3_ : Aside0 (w.heap.size ≤ gb247) := ⟨h3_⟩
          have n4_ : Aside0 (w.heap.size ≤ gb247) := ⟨h4_⟩
          have n5_ : Aside0 (gb229 ≠ gb247) := ⟨h5_⟩
          have n6_ : Aside0 (gb247 ≠ gb229) := ⟨h6_⟩
          have n7_ : Aside0 (gb230 ≠ gb247) := ⟨h7_⟩
          have n8_ : Aside0 (gb247 ≠ gb230) := ⟨h8_⟩
          have n9_ : Aside0 (Below w.heap.size w w24) := ⟨h9_⟩
          clear BK229
          clear BK230
          clear HB
          clear h0_ h1_ h2_ h3_ h4_ h5_ h6_ h7_ h8_ h9_
          have BK229 := n0_
          have BK230 := n1_
          have BK247 := n2_
          have GW247 := n3_
          have GE247 := n4_
          have NB229_247 := n5_
          have NB247_229 := n6_
          have NB230_247 := n7_
          have NB247_230 := n8_
          have HB := n9_
          clear n0_ n1_ n2_ n3_ n4_ n5_ n6_ n7_ n8_ n9_
          have hHeld : w24.cell? ⟨gb229, 0, none⟩ = some (.int .u64 a0_0) ∧ w24.cell? ⟨gb229, 1, none⟩ = some (.int .u64 a0_1) ∧ w24.cell? ⟨gb230, 0, none⟩ = some (.int .u64 a1_0) ∧ w24.cell? ⟨gb230, 1, none⟩ = some (.int .u64 a1_1) := hS_
          refine norm_ (a' := ?_) ?_ ?_
          rotate_left
          ·
           simp only [putAll, Act.put, List.setIfInBounds_toArray, List.set_cons_zero, List.set_cons_succ]
           rfl
          refine two_ (i := 3) (j := 5) (Ni := some 10) (Nj := some 6) #[T, T, T, T, T, F, F, F] #[T, T, T, F, T, T, F, F] rfl rfl rfl rfl (two_of HT_.out (by kernel_rfl)) (by decide) (by decide) (fun K hK => ?_) (fun K hK => ?_)
          ·
           skip
           refine goes_ Try.func11 (by kernel_rfl) rfl #[.agg #[.int .u64 a1_0, .int .u64 a1_1]] (by rfl) rfl rfl (by (try simp only [List.map_toArray, List.map_cons, List.map_nil]); first | done | rfl | (simp only [List.length_drop, List.length_take]; rfl)) ?_
           with_reducible refine (offertoryref09_Of.calls a1_0 a1_1 t239 t240 t241 t242 t243 t244 t245 t246 _ A4.out).mono ?_
           rintro e w25 ⟨rfl, hb⟩
           refine ⟨_, rfl, ?_⟩
           have n0_ := Aside0.mk (blk_below (g := gb229) (o := .cells #[.int .u64 a0_0, .int .u64 a0_1] 25 (0, 0)) (by (with_reducible repeat (first | refine blk_drewN ?_ _ | refine blk_drew ?_ | refine blk_alloc ?_ _)); exact BK229.out) hb)
           have n1_ := Aside0.mk (blk_below (g := gb230) (o := .cells #[.int .u64 a1_0, .int .u64 a1_1] 25 (0, 0)) (by (with_reducible repeat (first | refine blk_drewN ?_ _ | refine blk_drew ?_ | refine blk_alloc ?_ _)); exact BK230.out) hb)
           have n2_ := Aside0.mk (blk_below (g := gb247) (o := .cells #[.int .u32 0, .int .u32 0, .int .u32 0, .int .u32 0, .int .u32 0, .int .u32 0, .int .u32 0, .int .u32 0] 29 (0, 0)) (by (with_reducible repeat (first | refine blk_drewN ?_ _ | refine blk_drew ?_ | refine blk_alloc ?_ _)); exact BK247.out) hb)
           have n3_ := Aside0.mk (below_step (by repeat (first | (with_reducible first | exact HB.out | apply below_alloc | apply pw_below_drewN | apply below_drew1 | refine below_set ?_ GE229.out | refine below_set ?_ GE230.out | refine below_set ?_ GE247.out) | exact HB.out)) hb)
           clear BK229
           clear BK230
           clear BK247
           clear HB
           have BK229 := n0_
           have BK230 := n1_
           have BK247 := n2_
           have HB := n3_
           clear n0_ n1_ n2_ n3_
           (try clear hb)
           (try clear hb2)
           (try clear hk)
           (try clear hi)
           refine hK.out _ _ ⟨(blk_cell BK229.out 0).trans rfl, (blk_cell BK229.out 1).trans rfl, (blk_cell BK230.out 0).trans rfl, (blk_cell BK230.out 1).trans rfl⟩ (fun hHeld => ?_)
           clear hK K
           refine norm_ (a' := ?_) ?_ ?_
           rotate_left
           ·
            show Act.put _ (some 10) _ = _
            simp only [Act.put, List.setIfInBounds_toArray, List.set_cons_zero, List.set_cons_succ, i64_w, i32_w]
            rfl
           exact norm_ (by first | (simp only [putAll, Act.put, List.setIfInBounds_toArray, List.set_cons_zero, List.set_cons_succ]; done) | (simp only [putAll, Act.put, List.setIfInBounds_toArray, List.set_cons_zero, List.set_cons_succ]; rfl)) (hJ1_3_4 (gb247) _ ⟨hHeld, (by (with_reducible repeat (first | refine blk_drewN ?_ _ | refine blk_drew ?_ | refine blk_alloc ?_ _)); exact BK229.out), (by (with_reducible repeat (first | refine blk_drewN ?_ _ | refine blk_drew ?_ | refine blk_alloc ?_ _)); exact BK230.out), (by (with_reducible repeat (first | refine blk_drewN ?_ _ | refine blk_drew ?_ | refine blk_alloc ?_ _)); exact BK247.out), GW247.out, GE247.out, NB229_247.out, NB247_229.out, NB230_247.out, NB247_230.out, (by repeat (first | (with_reducible first | exact HB.out | apply below_alloc | apply pw_below_drewN | apply below_drew1 | refine below_set ?_ GE229.out | refine below_set ?_ GE230.out | refine below_set ?_ GE247.out) | exact HB.out))⟩)
          ·
           skip
           refine box_step ?hg (N := 6) ?hd (cs := #[.int .u32 0, .int .u32 0, .int .u32 0, .int .u32 0, .int .u32 0, .int .u32 0, .int .u32 0, .int .u32 0]) (t := 29) ?hr ?_; (case hd => rfl); (case hg => rfl); (case hr => first | (go_simp; done) | (go_simp; rfl))
           intro gb248 hg w25 hbox hb
           have n0_ := Aside0.mk (blk_below (g := gb229) (o := .cells #[.int .u64 a0_0, .int .u64 a0_1] 25 (0, 0)) (by (with_reducible repeat (first | refine blk_drewN ?_ _ | refine blk_drew ?_ | refine blk_alloc ?_ _)); exact BK229.out) hb)
           have n1_ := Aside0.mk (blk_below (g := gb230) (o := .cells #[.int .u64 a1_0, .int .u64 a1_1] 25 (0, 0)) (by (with_reducible repeat (first | refine blk_drewN ?_ _ | refine blk_drew ?_ | refine blk_alloc ?_ _)); exact BK230.out) hb)
           have n2_ := Aside0.mk (blk_below (g := gb247) (o := .cells #[.int .u32 0, .int .u32 0, .int .u32 0, .int .u32 0, .int .u32 0, .int .u32 0, .int .u32 0, .int .u32 0] 29 (0, 0)) (by (with_reducible repeat (first | refine blk_drewN ?_ _ | refine blk_drew ?_ | refine blk_alloc ?_ _)); exact BK247.out) hb)
           have n3_ := Aside0.mk (below_step (by repeat (first | (with_reducible first | exact HB.out | apply below_alloc | apply pw_below_drewN | apply below_drew1 | refine below_set ?_ GE229.out | refine below_set ?_ GE230.out | refine below_set ?_ GE247.out) | exact HB.out)) hb)
           have n4_ := Aside0.mk (hbox)
           have n5_ := Aside0.mk ((by rw [hg]; exact (below_size (by repeat (first | (with_reducible first | exact HB.out | apply below_alloc | apply pw_below_drewN | apply below_drew1 | refine below_set ?_ GE229.out | refine below_set ?_ GE230.out | refine below_set ?_ GE247.out) | exact HB.out))) : w.heap.size ≤ gb248))
           have n6_ := Aside0.mk ((by rw [hg]; exact (below_size (by repeat (first | (with_reducible first | exact HB.out | apply below_alloc | apply pw_below_drewN | apply below_drew1 | refine below_set ?_ GE229.out | refine below_set ?_ GE230.out | refine below_set ?_ GE247.out) | exact HB.out))) : w.heap.size ≤ gb248))
           have n7_ := Aside0.mk ((by rw [hg]; exact Nat.ne_of_lt (blk_lt (g := gb229) (o := .cells #[.int .u64 a0_0, .int .u64 a0_1] 25 (0, 0)) (by (with_reducible repeat (first | refine blk_drewN ?_ _ | refine blk_drew ?_ | refine blk_alloc ?_ _)); exact BK229.out)) : gb229 ≠ gb248))
           have n8_ := Aside0.mk ((by rw [hg]; exact Nat.ne_of_gt (blk_lt (g := gb229) (o := .cells #[.int .u64 a0_0, .int .u64 a0_1] 25 (0, 0)) (by (with_reducible repeat (first | refine blk_drewN ?_ _ | refine blk_drew ?_ | refine blk_alloc ?_ _)); exact BK229.out)) : gb248 ≠ gb229))
           have n9_ := Aside0.mk ((by rw [hg]; exact Nat.ne_of_lt (blk_lt (g := gb230) (o := .cells #[.int .u64 a1_0, .int .u64 a1_1] 25 (0, 0)) (by (with_reducible repeat (first | refine blk_drewN ?_ _ | refine blk_drew ?_ | refine blk_alloc ?_ _)); exact BK230.out)) : gb230 ≠ gb248))
           have n10_ := Aside0.mk ((by rw [hg]; exact Nat.ne_of_gt (blk_lt (g := gb230) (o := .cells #[.int .u64 a1_0, .int .u64 a1_1] 25 (0, 0)) (by (with_reducible repeat (first | refine blk_drewN ?_ _ | refine blk_drew ?_ | refine blk_alloc ?_ _)); exact BK230.out)) : gb248 ≠ gb230))
           have n11_ := Aside0.mk ((by rw [hg]; exact Nat.ne_of_lt (blk_lt (g := gb247) (o := .cells #[.int .u32 0, .int .u32 0, .int .u32 0, .int .u32 0, .int .u32 0, .int .u32 0, .int .u32 0, .int .u32 0] 29 (0, 0)) (by (with_reducible repeat (first | refine blk_drewN ?_ _ | refine blk_drew ?_ | refine blk_alloc ?_ _)); exact BK247.out)) : gb247 ≠ gb248))
           have n12_ := Aside0.mk ((by rw [hg]; exact Nat.ne_of_gt (blk_lt (g := gb247) (o := .cells #[.int .u32 0, .int .u32 0, .int .u32 0, .int .u32 0, .int .u32 0, .int .u32 0, .int .u32 0, .int .u32 0] 29 (0, 0)) (by (with_reducible repeat (first | refine blk_drewN ?_ _ | refine blk_drew ?_ | refine blk_alloc ?_ _)); exact BK247.out)) : gb248 ≠ gb247))
           clear BK229
           clear BK230
           clear BK247
           clear HB
           have BK229 := n0_
           have BK230 := n1_
           have BK247 := n2_
           have HB := n3_
           have BK248 := n4_
           have GW248 := n5_
           have GE248 := n6_
           have NB229_248 := n7_
           have NB248_229 := n8_
           have NB230_248 := n9_
           have NB248_230 := n10_
           have NB247_248 := n11_
           have NB248_247 := n12_
           clear n0_ n1_ n2_ n3_ n4_ n5_ n6_ n7_ n8_ n9_ n10_ n11_ n12_
           clear hb hbox hg
           refine hK.out _ _ ⟨(blk_cell BK229.out 0).trans rfl, (blk_cell BK229.out 1).trans rfl, (blk_cell BK230.out 0).trans rfl, (blk_cell BK230.out 1).trans rfl⟩ (fun hHeld => ?_)
           clear hK K
           refine norm_ (a' := ?_) ?_ ?_
           rotate_left
           ·
            show Act.put _ (some 6) _ = _
            simp only [Act.put, List.setIfInBounds_toArray, List.set_cons_zero, List.set_cons_succ, i64_w, i32_w]
            rfl
           exact norm_ (by first | (simp only [putAll, Act.put, List.setIfInBounds_toArray, List.set_cons_zero, List.set_cons_succ]; done) | (simp only [putAll, Act.put, List.setIfInBounds_toArray, List.set_cons_zero, List.set_cons_succ]; rfl)) (hJ1_4_5 (gb247, gb248) _ ⟨hHeld, (by (with_reducible repeat (first | refine blk_drewN ?_ _ | refine blk_drew ?_ | refine blk_alloc ?_ _)); exact BK229.out), (by (with_reducible repeat (first | refine blk_drewN ?_ _ | refine blk_drew ?_ | refine blk_alloc ?_ _)); exact BK230.out), (by (with_reducible repeat (first | refine blk_drewN ?_ _ | refine blk_drew ?_ | refine blk_alloc ?_ _)); exact BK247.out), (by (with_reducible repeat (first | refine blk_drewN ?_ _ | refine blk_drew ?_ | refine blk_alloc ?_ _)); exact BK248.out), GW247.out, GE247.out, NB229_247.out, NB247_229.out, NB230_247.out, NB247_230.out, NB248_247.out, NB247_248.out, GW248.out, GE248.out, NB229_248.out, NB248_229.out, NB230_248.out, NB248_230.out, (by repeat (first | (with_reducible first | exact HB.out | apply below_alloc | apply pw_below_drewN | apply below_drew1 | refine below_set ?_ GE229.out | refine below_set ?_ GE230.out | refine below_set ?_ GE247.out | refine below_set ?_ GE248.out) | exact HB.out))⟩)
        ·
         skip
         rintro _ w24 ⟨hS_, h0_, h1_, h2_⟩
         have n0_ : Aside0 (w24.heap[gb229]? = some (.cells #[.int .u64 a0_0, .int .u64 a0_1] 25 (0, 0))) := ⟨h0_⟩
         have n1_ : Aside0 (w24.heap[gb230]? = some (.cells #[.int .u64 a1_0, .int .u64 a1_1] 25 (0, 0))) := ⟨h1_⟩
         have n2_ : Aside0 (Below w.heap.size w w24) := ⟨h2_⟩
         clear BK229
         clear BK230
         clear HB
         clear h0_ h1_ h2_
         have BK229 := n0_
         have BK230 := n1_
         have HB := n2_
         clear n0_ n1_ n2_
         have hHeld : w24.cell? ⟨gb229, 0, none⟩ = some (.int .u64 a0_0) ∧ w24.cell? ⟨gb229, 1, none⟩ = some (.int .u64 a0_1) ∧ w24.cell? ⟨gb230, 0, none⟩ = some (.int .u64 a1_0) ∧ w24.cell? ⟨gb230, 1, none⟩ = some (.int .u64 a1_1) := hS_
         refine norm_ (a' := ?_) ?_ ?_
         rotate_left
         ·
          simp only [putAll, Act.put, List.setIfInBounds_toArray, List.set_cons_zero, List.set_cons_succ]
          rfl
         refine two_ (i := 4) (j := 5) (Ni := some 5) (Nj := some 6) #[T, T, T, T, T, F, F, F] #[T, T, T, T, F, T, F, F] rfl rfl rfl rfl (two_of HT_.out (by kernel_rfl)) (by decide) (by decide) (fun K hK => ?_) (fun K hK => ?_)
         ·
          skip
          refine box_step ?hg (N := 5) ?hd (cs := #[.int .u32 0, .int .u32 0, .int .u32 0, .int .u32 0, .int .u32 0, .int .u32 0, .int .u32 0, .int .u32 0]) (t := 29) ?hr ?_; (case hd => rfl); (case hg => rfl); (case hr => first | (go_simp; done) | (go_simp; rfl))
          intro gb247 hg w25 hbox hb
          have n0_ := Aside0.mk (blk_below (g := gb229) (o := .cells #[.int .u64 a0_0, .int .u64 a0_1] 25 (0, 0)) (by (with_reducible repeat (first | refine blk_drewN ?_ _ | refine blk_drew ?_ | refine blk_alloc ?_ _)); exact BK229.out) hb)
          have n1_ := Aside0.mk (blk_below (g := gb230) (o := .cells #[.int .u64 a1_0, .int .u64 a1_1] 25 (0, 0)) (by (with_reducible repeat (first | refine blk_drewN ?_ _ | refine blk_drew ?_ | refine blk_alloc ?_ _)); exact BK230.out) hb)
          have n2_ := Aside0.mk (below_step (by repeat (first | (with_reducible first | exact HB.out | apply below_alloc | apply pw_below_drewN | apply below_drew1 | refine below_set ?_ GE229.out | refine below_set ?_ GE230.out) | exact HB.out)) hb)
          have n3_ := Aside0.mk (hbox)
          have n4_ := Aside0.mk ((by rw [hg]; exact (below_size (by repeat (first | (with_reducible first | exact HB.out | apply below_alloc | apply pw_below_drewN | apply below_drew1 | refine below_set ?_ GE229.out | refine below_set ?_ GE230.out) | exact HB.out))) : w.heap.size ≤ gb247))
          have n5_ := Aside0.mk ((by rw [hg]; exact (below_size (by repeat (first | (with_reducible first | exact HB.out | apply below_alloc | apply pw_below_drewN | apply below_drew1 | refine below_set ?_ GE229.out | refine below_set ?_ GE230.out) | exact HB.out))) : w.heap.size ≤ gb247))
          have n6_ := Aside0.mk ((by rw [hg]; exact Nat.ne_of_lt (blk_lt (g := gb229) (o := .cells #[.int .u64 a0_0, .int .u64 a0_1] 25 (0, 0)) (by (with_reducible repeat (first | refine blk_drewN ?_ _ | refine blk_drew ?_ | refine blk_alloc ?_ _)); exact BK229.out)) : gb229 ≠ gb247))
          have n7_ := Aside0.mk ((by rw [hg]; exact Nat.ne_of_gt (blk_lt (g := gb229) (o := .cells #[.int .u64 a0_0, .int .u64 a0_1] 25 (0, 0)) (by (with_reducible repeat (first | refine blk_drewN ?_ _ | refine blk_drew ?_ | refine blk_alloc ?_ _)); exact BK229.out)) : gb247 ≠ gb229))
          have n8_ := Aside0.mk ((by rw [hg]; exact Nat.ne_of_lt (blk_lt (g := gb230) (o := .cells #[.int .u64 a1_0, .int .u64 a1_1] 25 (0, 0)) (by (with_reducible repeat (first | refine blk_drewN ?_ _ | refine blk_drew ?_ | refine blk_alloc ?_ _)); exact BK230.out)) : gb230 ≠ gb247))
          have n9_ := Aside0.mk ((by rw [hg]; exact Nat.ne_of_gt (blk_lt (g := gb230) (o := .cells #[.int .u64 a1_0, .int .u64 a1_1] 25 (0, 0)) (by (with_reducible repeat (first | refine blk_drewN ?_ _ | refine blk_drew ?_ | refine blk_alloc ?_ _)); exact BK230.out)) : gb247 ≠ gb230))
          clear BK229
          clear BK230
          clear HB
          have BK229 := n0_
          have BK230 := n1_
          have HB := n2_
          have BK247 := n3_
          have GW247 := n4_
          have GE247 := n5_
          have NB229_247 := n6_
          have NB247_229 := n7_
          have NB230_247 := n8_
          have NB247_230 := n9_
          clear n0_ n1_ n2_ n3_ n4_ n5_ n6_ n7_ n8_ n9_
          clear hb hbox hg
          refine hK.out _ _ ⟨(blk_cell BK229.out 0).trans rfl, (blk_cell BK229.out 1).trans rfl, (blk_cell BK230.out 0).trans rfl, (blk_cell BK230.out 1).trans rfl⟩ (fun hHeld => ?_)
          clear hK K
          refine norm_ (a' := ?_) ?_ ?_
          rotate_left
          ·
           show Act.put _ (some 5) _ = _
           simp only [Act.put, List.setIfInBounds_toArray, List.set_cons_zero, List.set_cons_succ, i64_w, i32_w]
           rfl
          exact norm_ (by first | (simp only [putAll, Act.put, List.setIfInBounds_toArray, List.set_cons_zero, List.set_cons_succ]; done) | (simp only [putAll, Act.put, List.setIfInBounds_toArray, List.set_cons_zero, List.set_cons_succ]; rfl)) (hJ1_3_4 (gb247) _ ⟨hHeld, (by (with_reducible repeat (first | refine blk_drewN ?_ _ | refine blk_drew ?_ | refine blk_alloc ?_ _)); exact BK229.out), (by (with_reducible repeat (first | refine blk_drewN ?_ _ | refine blk_drew ?_ | refine blk_alloc ?_ _)); exact BK230.out), (by (with_reducible repeat (first | refine blk_drewN ?_ _ | refine blk_drew ?_ | refine blk_alloc ?_ _)); exact BK247.out), GW247.out, GE247.out, NB229_247.out, NB247_229.out, NB230_247.out, NB247_230.out, (by repeat (first | (with_reducible first | exact HB.out | apply below_alloc | apply pw_below_drewN | apply below_drew1 | refine below_set ?_ GE229.out | refine below_set ?_ GE230.out | refine below_set ?_ GE247.out) | exact HB.out))⟩)
         ·
          skip
          refine box_step ?hg (N := 6) ?hd (cs := #[.int .u32 0, .int .u32 0, .int .u32 0, .int .u32 0, .int .u32 0, .int .u32 0, .int .u32 0, .int .u32 0]) (t := 29) ?hr ?_; (case hd => rfl); (case hg => rfl); (case hr => first | (go_simp; done) | (go_simp; rfl))
          intro gb248 hg w25 hbox hb
          have n0_ := Aside0.mk (blk_below (g := gb229) (o := .cells #[.int .u64 a0_0, .int .u64 a0_1] 25 (0, 0)) (by (with_reducible repeat (first | refine blk_drewN ?_ _ | refine blk_drew ?_ | refine blk_alloc ?_ _)); exact BK229.out) hb)
          have n1_ := Aside0.mk (blk_below (g := gb230) (o := .cells #[.int .u64 a1_0, .int .u64 a1_1] 25 (0, 0)) (by (with_reducible repeat (first | refine blk_drewN ?_ _ | refine blk_drew ?_ | refine blk_alloc ?_ _)); exact BK230.out) hb)
          have n2_ := Aside0.mk (below_step (by repeat (first | (with_reducible first | exact HB.out | apply below_alloc | apply pw_below_drewN | apply below_drew1 | refine below_set ?_ GE229.out | refine below_set ?_ GE230.out) | exact HB.out)) hb)
          have n3_ := Aside0.mk (hbox)
          have n4_ := Aside0.mk ((by rw [hg]; exact (below_size (by repeat (first | (with_reducible first | exact HB.out | apply below_alloc | apply pw_below_drewN | apply below_drew1 | refine below_set ?_ GE229.out | refine below_set ?_ GE230.out) | exact HB.out))) : w.heap.size ≤ gb248))
          have n5_ := Aside0.mk ((by rw [hg]; exact (below_size (by repeat (first | (with_reducible first | exact HB.out | apply below_alloc | apply pw_below_drewN | apply below_drew1 | refine below_set ?_ GE229.out | refine below_set ?_ GE230.out) | exact HB.out))) : w.heap.size ≤ gb248))
          have n6_ := Aside0.mk ((by rw [hg]; exact Nat.ne_of_lt (blk_lt (g := gb229) (o := .cells #[.int .u64 a0_0, .int .u64 a0_1] 25 (0, 0)) (by (with_reducible repeat (first | refine blk_drewN ?_ _ | refine blk_drew ?_ | refine blk_alloc ?_ _)); exact BK229.out)) : gb229 ≠ gb248))
          have n7_ := Aside0.mk ((by rw [hg]; exact Nat.ne_of_gt (blk_lt (g := gb229) (o := .cells #[.int .u64 a0_0, .int .u64 a0_1] 25 (0, 0)) (by (with_reducible repeat (first | refine blk_drewN ?_ _ | refine blk_drew ?_ | refine blk_alloc ?_ _)); exact BK229.out)) : gb248 ≠ gb229))
          have n8_ := Aside0.mk ((by rw [hg]; exact Nat.ne_of_lt (blk_lt (g := gb230) (o := .cells #[.int .u64 a1_0, .int .u64 a1_1] 25 (0, 0)) (by (with_reducible repeat (first | refine blk_drewN ?_ _ | refine blk_drew ?_ | refine blk_alloc ?_ _)); exact BK230.out)) : gb230 ≠ gb248))
          have n9_ := Aside0.mk ((by rw [hg]; exact Nat.ne_of_gt (blk_lt (g := gb230) (o := .cells #[.int .u64 a1_0, .int .u64 a1_1] 25 (0, 0)) (by (with_reducible repeat (first | refine blk_drewN ?_ _ | refine blk_drew ?_ | refine blk_alloc ?_ _)); exact BK230.out)) : gb248 ≠ gb230))
          clear BK229
          clear BK230
          clear HB
          have BK229 := n0_
          have BK230 := n1_
          have HB := n2_
          have BK248 := n3_
          have GW248 := n4_
          have GE248 := n5_
          have NB229_248 := n6_
          have NB248_229 := n7_
          have NB230_248 := n8_
          have NB248_230 := n9_
          clear n0_ n1_ n2_ n3_ n4_ n5_ n6_ n7_ n8_ n9_
          clear hb hbox hg
          refine hK.out _ _ ⟨(blk_cell BK229.out 0).trans rfl, (blk_cell BK229.out 1).trans rfl, (blk_cell BK230.out 0).trans rfl, (blk_cell BK230.out 1).trans rfl⟩ (fun hHeld => ?_)
          clear hK K
          refine norm_ (a' := ?_) ?_ ?_
          rotate_left
          ·
           show Act.put _ (some 6) _ = _
           simp only [Act.put, List.setIfInBounds_toArray, List.set_cons_zero, List.set_cons_succ, i64_w, i32_w]
           rfl
          exact norm_ (by first | (simp only [putAll, Act.put, List.setIfInBounds_toArray, List.set_cons_zero, List.set_cons_succ]; done) | (simp only [putAll, Act.put, List.setIfInBounds_toArray, List.set_cons_zero, List.set_cons_succ]; rfl)) (hJ1_3_5 (gb248) _ ⟨hHeld, (by (with_reducible repeat (first | refine blk_drewN ?_ _ | refine blk_drew ?_ | refine blk_alloc ?_ _)); exact BK229.out), (by (with_reducible repeat (first | refine blk_drewN ?_ _ | refine blk_drew ?_ | refine blk_alloc ?_ _)); exact BK230.out), (by (with_reducible repeat (first | refine blk_drewN ?_ _ | refine blk_drew ?_ | refine blk_alloc ?_ _)); exact BK248.out), GW248.out, GE248.out, NB229_248.out, NB248_229.out, NB230_248.out, NB248_230.out, (by repeat (first | (with_reducible first | exact HB.out | apply below_alloc | apply pw_below_drewN | apply below_drew1 | refine below_set ?_ GE229.out | refine below_set ?_ GE230.out | refine below_set ?_ GE248.out) | exact HB.out))⟩)
       ·
        skip
        rintro ⟨gb247, gb248⟩ w25 ⟨hS_, h0_, h1_, h2_, h3_, h4_, h5_, h6_, h7_, h8_, h9_, h10_, h11_, h12_, h13_, h14_, h15_, h16_, h17_, h18_⟩
        have n0_ : Aside0 (w25.heap[gb229]? = some (.cells #[.int .u64 a0_0, .int .u64 a0_1] 25 (0, 0))) := ⟨h0_⟩
        have n1_ : Aside0 (w25.heap[gb230]? = some (.cells #[.int .u64 a1_0, .int .u64 a1_1] 25 (0, 0))) := ⟨h1_⟩
        have n2_ : Aside0 (w25.heap[gb247]? = some (.cells #[.int .u32 0, .int .u32 0, .int .u32 0, .int .u32 0, .int .u32 0, .int .u32 0, .int .u32 0, .int .u32 0] 29 (0, 0))) := ⟨h2_⟩
        have n3_ : Aside0 (w25.heap[gb248]? = some (.cells #[.int .u32 0, .int .u32 0, .int .u32 0, .int .u32 0, .int .u32 0, .int .u32 0, .int .u32 0, .int .u32 0] 29 (0, 0))) := ⟨h3_⟩
        have n4_ : Aside0 (w.heap.size ≤ gb247) := ⟨h4_⟩
        have n5_ : Aside0 (w.heap.size ≤ gb247) := ⟨h5_⟩
        have n6_ : Aside0 (gb229 ≠ gb247) := ⟨h6_⟩
        have n7_ : Aside0 (gb247 ≠ gb229) := ⟨h7_⟩
        have n8_ : Aside0 (gb230 ≠ gb247) := ⟨h8_⟩
        have n9_ : Aside0 (gb247 ≠ gb230) := ⟨h9_⟩
        have n10_ : Aside0 (gb248 ≠ gb247) := ⟨h10_⟩
        have n11_ : Aside0 (gb247 ≠ gb248) := ⟨h11_⟩
        have n12_ : Aside0 (w.heap.size ≤ gb248) := ⟨h12_⟩
        have n13_ : Aside0 (w.heap.size ≤ gb248) := ⟨h13_⟩
        have n14_ : Aside0 (gb229 ≠ gb248) := ⟨h14_⟩
        have n15_ : Aside0 (gb248 ≠ gb229) := ⟨h15_⟩
        have n16_ : Aside0 (gb230 ≠ gb248) := ⟨h16_⟩
        have n17_ : Aside0 (gb248 ≠ gb230) := ⟨h17_⟩
        have n18_ : Aside0 (Below w.heap.size w w25) := ⟨h18_⟩
        clear BK229
        clear BK230
        clear HB
        clear h0_ h1_ h2_ h3_ h4_ h5_ h6_ h7_ h8_ h9_ h10_ h11_ h12_ h13_ h14_ h15_ h16_ h17_ h18_
        have BK229 := n0_
        have BK230 := n1_
        have BK247 := n2_
        have BK248 := n3_
        have GW247 := n4_
        have GE247 := n5_
        have NB229_247 := n6_
        have NB247_229 := n7_
        have NB230_247 := n8_
        have NB247_230 := n9_
        have NB248_247 := n10_
        have NB247_248 := n11_
        have GW248 := n12_
        have GE248 := n13_
        have NB229_248 := n14_
        have NB248_229 := n15_
        have NB230_248 := n16_
        have NB248_230 := n17_
        have HB := n18_
        clear n0_ n1_ n2_ n3_ n4_ n5_ n6_ n7_ n8_ n9_ n10_ n11_ n12_ n13_ n14_ n15_ n16_ n17_ n18_
        have hHeld : w25.cell? ⟨gb229, 0, none⟩ = some (.int .u64 a0_0) ∧ w25.cell? ⟨gb229, 1, none⟩ = some (.int .u64 a0_1) ∧ w25.cell? ⟨gb230, 0, none⟩ = some (.int .u64 a1_0) ∧ w25.cell? ⟨gb230, 1, none⟩ = some (.int .u64 a1_1) := hS_
        refine norm_ (a' := ?_) ?_ ?_
        rotate_left
        ·
         simp only [putAll, Act.put, List.setIfInBounds_toArray, List.set_cons_zero, List.set_cons_succ]
         rfl
        refine one_ (i := 3) (N := some 10) #[T, T, T, T, T, T, F, F] rfl rfl (one_of HT_.out (by kernel_rfl)) (by decide) (fun K hK => ?_)
        refine goes_ Try.func11 (by kernel_rfl) rfl #[.agg #[.int .u64 a1_0, .int .u64 a1_1]] (by rfl) rfl rfl (by (try simp only [List.map_toArray, List.map_cons, List.map_nil]); first | done | rfl | (simp only [List.length_drop, List.length_take]; rfl)) ?_
        with_reducible refine (offertoryref09_Of.calls a1_0 a1_1 t239 t240 t241 t242 t243 t244 t245 t246 _ A4.out).mono ?_
        rintro e w26 ⟨rfl, hb⟩
        refine ⟨_, rfl, ?_⟩
        have n0_ := Aside0.mk (blk_below (g := gb229) (o := .cells #[.int .u64 a0_0, .int .u64 a0_1] 25 (0, 0)) (by (with_reducible repeat (first | refine blk_drewN ?_ _ | refine blk_drew ?_ | refine blk_alloc ?_ _)); exact BK229.out) hb)
        have n1_ := Aside0.mk (blk_below (g := gb230) (o := .cells #[.int .u64 a1_0, .int .u64 a1_1] 25 (0, 0)) (by (with_reducible repeat (first | refine blk_drewN ?_ _ | refine blk_drew ?_ | refine blk_alloc ?_ _)); exact BK230.out) hb)
        have n2_ := Aside0.mk (blk_below (g := gb247) (o := .cells #[.int .u32 0, .int .u32 0, .int .u32 0, .int .u32 0, .int .u32 0, .int .u32 0, .int .u32 0, .int .u32 0] 29 (0, 0)) (by (with_reducible repeat (first | refine blk_drewN ?_ _ | refine blk_drew ?_ | refine blk_alloc ?_ _)); exact BK247.out) hb)
        have n3_ := Aside0.mk (blk_below (g := gb248) (o := .cells #[.int .u32 0, .int .u32 0, .int .u32 0, .int .u32 0, .int .u32 0, .int .u32 0, .int .u32 0, .int .u32 0] 29 (0, 0)) (by (with_reducible repeat (first | refine blk_drewN ?_ _ | refine blk_drew ?_ | refine blk_alloc ?_ _)); exact BK248.out) hb)
        have n4_ := Aside0.mk (below_step (by repeat (first | (with_reducible first | exact HB.out | apply below_alloc | apply pw_below_drewN | apply below_drew1 | refine below_set ?_ GE229.out | refine below_set ?_ GE230.out | refine below_set ?_ GE247.out | refine below_set ?_ GE248.out) | exact HB.out)) hb)
        clear BK229
        clear BK230
        clear BK247
        clear BK248
        clear HB
        have BK229 := n0_
        have BK230 := n1_
        have BK247 := n2_
        have BK248 := n3_
        have HB := n4_
        clear n0_ n1_ n2_ n3_ n4_
        (try clear hb)
        (try clear hb2)
        (try clear hk)
        (try clear hi)
        refine hK.out _ _ ⟨(blk_cell BK229.out 0).trans rfl, (blk_cell BK229.out 1).trans rfl, (blk_cell BK230.out 0).trans rfl, (blk_cell BK230.out 1).trans rfl⟩ (fun hHeld => ?_)
        clear hK K
        refine norm_ (a' := ?_) ?_ ?_
        rotate_left
        ·
         show Act.put _ (some 10) _ = _
         simp only [Act.put, List.setIfInBounds_toArray, List.set_cons_zero, List.set_cons_succ, i64_w, i32_w]
         rfl
        exact norm_ (by first | (simp only [putAll, Act.put, List.setIfInBounds_toArray, List.set_cons_zero, List.set_cons_succ]; done) | (simp only [putAll, Act.put, List.setIfInBounds_toArray, List.set_cons_zero, List.set_cons_succ]; rfl)) (hJ1_3_4_5 (gb247, gb248) _ ⟨hHeld, (by (with_reducible repeat (first | refine blk_drewN ?_ _ | refine blk_drew ?_ | refine blk_alloc ?_ _)); exact BK229.out), (by (with_reducible repeat (first | refine blk_drewN ?_ _ | refine blk_drew ?_ | refine blk_alloc ?_ _)); exact BK230.out), (by (with_reducible repeat (first | refine blk_drewN ?_ _ | refine blk_drew ?_ | refine blk_alloc ?_ _)); exact BK247.out), (by (with_reducible repeat (first | refine blk_drewN ?_ _ | refine blk_drew ?_ | refine blk_alloc ?_ _)); exact BK248.out), GW247.out, GE247.out, NB229_247.out, NB247_229.out, NB230_247.out, NB247_230.out, NB248_247.out, NB247_248.out, GW248.out, GE248.out, NB229_248.out, NB248_229.out, NB230_248.out, NB248_230.out, (by repeat (first | (with_reducible first | exact HB.out | apply below_alloc | apply pw_below_drewN | apply below_drew1 | refine below_set ?_ GE229.out | refine below_set ?_ GE230.out | refine below_set ?_ GE247.out | refine below_set ?_ GE248.out) | exact HB.out))⟩)
      ·
       skip
       rintro gb248 w25 ⟨hS_, h0_, h1_, h2_, h3_, h4_, h5_, h6_, h7_, h8_, h9_⟩
       have n0_ : Aside0 (w25.heap[gb229]? = some (.cells #[.int .u64 a0_0, .int .u64 a0_1] 25 (0, 0))) := ⟨h0_⟩
       have n1_ : Aside0 (w25.heap[gb230]? = some (.cells #[.int .u64 a1_0, .int .u64 a1_1] 25 (0, 0))) := ⟨h1_⟩
       have n2_ : Aside0 (w25.heap[gb248]? = some (.cells #[.int .u32 0, .int .u32 0, .int .u32 0, .int .u32 0, .int .u32 0, .int .u32 0, .int .u32 0, .int .u32 0] 29 (0, 0))) := ⟨h2_⟩
       have n3_ : Aside0 (w.heap.size ≤ gb248) := ⟨h3_⟩
       have n4_ : Aside0 (w.heap.size ≤ gb248) := ⟨h4_⟩
       have n5_ : Aside0 (gb229 ≠ gb248) := ⟨h5_⟩
       have n6_ : Aside0 (gb248 ≠ gb229) := ⟨h6_⟩
       have n7_ : Aside0 (gb230 ≠ gb248) := ⟨h7_⟩
       have n8_ : Aside0 (gb248 ≠ gb230) := ⟨h8_⟩
       have n9_ : Aside0 (Below w.heap.size w w25) := ⟨h9_⟩
       clear BK229
       clear BK230
       clear HB
       clear h0_ h1_ h2_ h3_ h4_ h5_ h6_ h7_ h8_ h9_
       have BK229 := n0_
       have BK230 := n1_
       have BK248 := n2_
       have GW248 := n3_
       have GE248 := n4_
       have NB229_248 := n5_
       have NB248_229 := n6_
       have NB230_248 := n7_
       have NB248_230 := n8_
       have HB := n9_
       clear n0_ n1_ n2_ n3_ n4_ n5_ n6_ n7_ n8_ n9_
       have hHeld : w25.cell? ⟨gb229, 0, none⟩ = some (.int .u64 a0_0) ∧ w25.cell? ⟨gb229, 1, none⟩ = some (.int .u64 a0_1) ∧ w25.cell? ⟨gb230, 0, none⟩ = some (.int .u64 a1_0) ∧ w25.cell? ⟨gb230, 1, none⟩ = some (.int .u64 a1_1) := hS_
       refine norm_ (a' := ?_) ?_ ?_
       rotate_left
       ·
        simp only [putAll, Act.put, List.setIfInBounds_toArray, List.set_cons_zero, List.set_cons_succ]
        rfl
       refine one_ (i := 4) (N := some 5) #[T, T, T, T, T, T, F, F] rfl rfl (one_of HT_.out (by kernel_rfl)) (by decide) (fun K hK => ?_)
       refine box_step ?hg (N := 5) ?hd (cs := #[.int .u32 0, .int .u32 0, .int .u32 0, .int .u32 0, .int .u32 0, .int .u32 0, .int .u32 0, .int .u32 0]) (t := 29) ?hr ?_; (case hd => rfl); (case hg => rfl); (case hr => first | (go_simp; done) | (go_simp; rfl))
       intro gb247 hg w26 hbox hb
       have n0_ := Aside0.mk (blk_below (g := gb229) (o := .cells #[.int .u64 a0_0, .int .u64 a0_1] 25 (0, 0)) (by (with_reducible repeat (first | refine blk_drewN ?_ _ | refine blk_drew ?_ | refine blk_alloc ?_ _)); exact BK229.out) hb)
       have n1_ := Aside0.mk (blk_below (g := gb230) (o := .cells #[.int .u64 a1_0, .int .u64 a1_1] 25 (0, 0)) (by (with_reducible repeat (first | refine blk_drewN ?_ _ | refine blk_drew ?_ | refine blk_alloc ?_ _)); exact BK230.out) hb)
       have n2_ := Aside0.mk (blk_below (g := gb248) (o := .cells #[.int .u32 0, .int .u32 0, .int .u32 0, .int .u32 0, .int .u32 0, .int .u32 0, .int .u32 0, .int .u32 0] 29 (0, 0)) (by (with_reducible repeat (first | refine blk_drewN ?_ _ | refine blk_drew ?_ | refine blk_alloc ?_ _)); exact BK248.out) hb)
       have n3_ := Aside0.mk (below_step (by repeat (first | (with_reducible first | exact HB.out | apply below_alloc | apply pw_below_drewN | apply below_drew1 | refine below_set ?_ GE229.out | refine below_set ?_ GE230.out | refine below_set ?_ GE248.out) | exact HB.out)) hb)
       have n4_ := Aside0.mk (hbox)
       have n5_ := Aside0.mk ((by rw [hg]; exact (below_size (by repeat (first | (with_reducible first | exact HB.out | apply below_alloc | apply pw_below_drewN | apply below_drew1 | refine below_set ?_ GE229.out | refine below_set ?_ GE230.out | refine below_set ?_ GE248.out) | exact HB.out))) : w.heap.size ≤ gb247))
       have n6_ := Aside0.mk ((by rw [hg]; exact (below_size (by repeat (first | (with_reducible first | exact HB.out | apply below_alloc | apply pw_below_drewN | apply below_drew1 | refine below_set ?_ GE229.out | refine below_set ?_ GE230.out | refine below_set ?_ GE248.out) | exact HB.out))) : w.heap.size ≤ gb247))
       have n7_ := Aside0.mk ((by rw [hg]; exact Nat.ne_of_lt (blk_lt (g := gb229) (o := .cells #[.int .u64 a0_0, .int .u64 a0_1] 25 (0, 0)) (by (with_reducible repeat (first | refine blk_drewN ?_ _ | refine blk_drew ?_ | refine blk_alloc ?_ _)); exact BK229.out)) : gb229 ≠ gb247))
       have n8_ := Aside0.mk ((by rw [hg]; exact Nat.ne_of_gt (blk_lt (g := gb229) (o := .cells #[.int .u64 a0_0, .int .u64 a0_1] 25 (0, 0)) (by (with_reducible repeat (first | refine blk_drewN ?_ _ | refine blk_drew ?_ | refine blk_alloc ?_ _)); exact BK229.out)) : gb247 ≠ gb229))
       have n9_ := Aside0.mk ((by rw [hg]; exact Nat.ne_of_lt (blk_lt (g := gb230) (o := .cells #[.int .u64 a1_0, .int .u64 a1_1] 25 (0, 0)) (by (with_reducible repeat (first | refine blk_drewN ?_ _ | refine blk_drew ?_ | refine blk_alloc ?_ _)); exact BK230.out)) : gb230 ≠ gb247))
       have n10_ := Aside0.mk ((by rw [hg]; exact Nat.ne_of_gt (blk_lt (g := gb230) (o := .cells #[.int .u64 a1_0, .int .u64 a1_1] 25 (0, 0)) (by (with_reducible repeat (first | refine blk_drewN ?_ _ | refine blk_drew ?_ | refine blk_alloc ?_ _)); exact BK230.out)) : gb247 ≠ gb230))
       have n11_ := Aside0.mk ((by rw [hg]; exact Nat.ne_of_lt (blk_lt (g := gb248) (o := .cells #[.int .u32 0, .int .u32 0, .int .u32 0, .int .u32 0, .int .u32 0, .int .u32 0, .int .u32 0, .int .u32 0] 29 (0, 0)) (by (with_reducible repeat (first | refine blk_drewN ?_ _ | refine blk_drew ?_ | refine blk_alloc ?_ _)); exact BK248.out)) : gb248 ≠ gb247))
       have n12_ := Aside0.mk ((by rw [hg]; exact Nat.ne_of_gt (blk_lt (g := gb248) (o := .cells #[.int .u32 0, .int .u32 0, .int .u32 0, .int .u32 0, .int .u32 0, .int .u32 0, .int .u32 0, .int .u32 0] 29 (0, 0)) (by (with_reducible repeat (first | refine blk_drewN ?_ _ | refine blk_drew ?_ | refine blk_alloc ?_ _)); exact BK248.out)) : gb247 ≠ gb248))
       clear BK229
       clear BK230
       clear BK248
       clear HB
       have BK229 := n0_
       have BK230 := n1_
       have BK248 := n2_
       have HB := n3_
       have BK247 := n4_
       have GW247 := n5_
       have GE247 := n6_
       have NB229_247 := n7_
       have NB247_229 := n8_
       have NB230_247 := n9_
       have NB247_230 := n10_
       have NB248_247 := n11_
       have NB247_248 := n12_
       clear n0_ n1_ n2_ n3_ n4_ n5_ n6_ n7_ n8_ n9_ n10_ n11_ n12_
       clear hb hbox hg
       refine hK.out _ _ ⟨(blk_cell BK229.out 0).trans rfl, (blk_cell BK229.out 1).trans rfl, (blk_cell BK230.out 0).trans rfl, (blk_cell BK230.out 1).trans rfl⟩ (fun hHeld => ?_)
       clear hK K
       refine norm_ (a' := ?_) ?_ ?_
       rotate_left
       ·
        show Act.put _ (some 5) _ = _
        simp only [Act.put, List.setIfInBounds_toArray, List.set_cons_zero, List.set_cons_succ, i64_w, i32_w]
        rfl
       exact norm_ (by first | (simp only [putAll, Act.put, List.setIfInBounds_toArray, List.set_cons_zero, List.set_cons_succ]; done) | (simp only [putAll, Act.put, List.setIfInBounds_toArray, List.set_cons_zero, List.set_cons_succ]; rfl)) (hJ1_3_4_5 (gb247, gb248) _ ⟨hHeld, (by (with_reducible repeat (first | refine blk_drewN ?_ _ | refine blk_drew ?_ | refine blk_alloc ?_ _)); exact BK229.out), (by (with_reducible repeat (first | refine blk_drewN ?_ _ | refine blk_drew ?_ | refine blk_alloc ?_ _)); exact BK230.out), (by (with_reducible repeat (first | refine blk_drewN ?_ _ | refine blk_drew ?_ | refine blk_alloc ?_ _)); exact BK247.out), (by (with_reducible repeat (first | refine blk_drewN ?_ _ | refine blk_drew ?_ | refine blk_alloc ?_ _)); exact BK248.out), GW247.out, GE247.out, NB229_247.out, NB247_229.out, NB230_247.out, NB247_230.out, NB248_247.out, NB247_248.out, GW248.out, GE248.out, NB229_248.out, NB248_229.out, NB230_248.out, NB248_230.out, (by repeat (first | (with_reducible first | exact HB.out | apply below_alloc | apply pw_below_drewN | apply below_drew1 | refine below_set ?_ GE229.out | refine below_set ?_ GE230.out | refine below_set ?_ GE248.out | refine below_set ?_ GE247.out) | exact HB.out))⟩)
     ·
      skip
      rintro gb247 w25 ⟨hS_, h0_, h1_, h2_, h3_, h4_, h5_, h6_, h7_, h8_, h9_⟩
      have n0_ : Aside0 (w25.heap[gb229]? = some (.cells #[.int .u64 a0_0, .int .u64 a0_1] 25 (0, 0))) := ⟨h0_⟩
      have n1_ : Aside0 (w25.heap[gb230]? = some (.cells #[.int .u64 a1_0, .int .u64 a1_1] 25 (0, 0))) := ⟨h1_⟩
      have n2_ : Aside0 (w25.heap[gb247]? = some (.cells #[.int .u32 0, .int .u32 0, .int .u32 0, .int .u32 0, .int .u32 0, .int .u32 0, .int .u32 0, .int .u32 0] 29 (0, 0))) := ⟨h2_⟩
      have n3_ : Aside0 (w.heap.size ≤ gb247) := ⟨h3_⟩
      have n4_ : Aside0 (w.heap.size ≤ gb247) := ⟨h4_⟩
      have n5_ : Aside0 (gb229 ≠ gb247) := ⟨h5_⟩
      have n6_ : Aside0 (gb247 ≠ gb229) := ⟨h6_⟩
      have n7_ : Aside0 (gb230 ≠ gb247) := ⟨h7_⟩
      have n8_ : Aside0 (gb247 ≠ gb230) := ⟨h8_⟩
      have n9_ : Aside0 (Below w.heap.size w w25) := ⟨h9_⟩
      clear BK229
      clear BK230
      clear HB
      clear h0_ h1_ h2_ h3_ h4_ h5_ h6_ h7_ h8_ h9_
      have BK229 := n0_
      have BK230 := n1_
      have BK247 := n2_
      have GW247 := n3_
      have GE247 := n4_
      have NB229_247 := n5_
      have NB247_229 := n6_
      have NB230_247 := n7_
      have NB247_230 := n8_
      have HB := n9_
      clear n0_ n1_ n2_ n3_ n4_ n5_ n6_ n7_ n8_ n9_
      have hHeld : w25.cell? ⟨gb229, 0, none⟩ = some (.int .u64 a0_0) ∧ w25.cell? ⟨gb229, 1, none⟩ = some (.int .u64 a0_1) ∧ w25.cell? ⟨gb230, 0, none⟩ = some (.int .u64 a1_0) ∧ w25.cell? ⟨gb230, 1, none⟩ = some (.int .u64 a1_1) := hS_
      refine norm_ (a' := ?_) ?_ ?_
      rotate_left
      ·
       simp only [putAll, Act.put, List.setIfInBounds_toArray, List.set_cons_zero, List.set_cons_succ]
       rfl
      refine one_ (i := 5) (N := some 6) #[T, T, T, T, T, T, F, F] rfl rfl (one_of HT_.out (by kernel_rfl)) (by decide) (fun K hK => ?_)
      refine box_step ?hg (N := 6) ?hd (cs := #[.int .u32 0, .int .u32 0, .int .u32 0, .int .u32 0, .int .u32 0, .int .u32 0, .int .u32 0, .int .u32 0]) (t := 29) ?hr ?_; (case hd => rfl); (case hg => rfl); (case hr => first | (go_simp; done) | (go_simp; rfl))
      intro gb248 hg w26 hbox hb
      have n0_ := Aside0.mk (blk_below (g := gb229) (o := .cells #[.int .u64 a0_0, .int .u64 a0_1] 25 (0, 0)) (by (with_reducible repeat (first | refine blk_drewN ?_ _ | refine blk_drew ?_ | refine blk_alloc ?_ _)); exact BK229.out) hb)
      have n1_ := Aside0.mk (blk_below (g := gb230) (o := .cells #[.int .u64 a1_0, .int .u64 a1_1] 25 (0, 0)) (by (with_reducible repeat (first | refine blk_drewN ?_ _ | refine blk_drew ?_ | refine blk_alloc ?_ _)); exact BK230.out) hb)
      have n2_ := Aside0.mk (blk_below (g := gb247) (o := .cells #[.int .u32 0, .int .u32 0, .int .u32 0, .int .u32 0, .int .u32 0, .int .u32 0, .int .u32 0, .int .u32 0] 29 (0, 0)) (by (with_reducible repeat (first | refine blk_drewN ?_ _ | refine blk_drew ?_ | refine blk_alloc ?_ _)); exact BK247.out) hb)
      have n3_ := Aside0.mk (below_step (by repeat (first | (with_reducible first | exact HB.out | apply below_alloc | apply pw_below_drewN | apply below_drew1 | refine below_set ?_ GE229.out | refine below_set ?_ GE230.out | refine below_set ?_ GE247.out) | exact HB.out)) hb)
      have n4_ := Aside0.mk (hbox)
      have n5_ := Aside0.mk ((by rw [hg]; exact (below_size (by repeat (first | (with_reducible first | exact HB.out | apply below_alloc | apply pw_below_drewN | apply below_drew1 | refine below_set ?_ GE229.out | refine below_set ?_ GE230.out | refine below_set ?_ GE247.out) | exact HB.out))) : w.heap.size ≤ gb248))
      have n6_ := Aside0.mk ((by rw [hg]; exact (below_size (by repeat (first | (with_reducible first | exact HB.out | apply below_alloc | apply pw_below_drewN | apply below_drew1 | refine below_set ?_ GE229.out | refine below_set ?_ GE230.out | refine below_set ?_ GE247.out) | exact HB.out))) : w.heap.size ≤ gb248))
      have n7_ := Aside0.mk ((by rw [hg]; exact Nat.ne_of_lt (blk_lt (g := gb229) (o := .cells #[.int .u64 a0_0, .int .u64 a0_1] 25 (0, 0)) (by (with_reducible repeat (first | refine blk_drewN ?_ _ | refine blk_drew ?_ | refine blk_alloc ?_ _)); exact BK229.out)) : gb229 ≠ gb248))
      have n8_ := Aside0.mk ((by rw [hg]; exact Nat.ne_of_gt (blk_lt (g := gb229) (o := .cells #[.int .u64 a0_0, .int .u64 a0_1] 25 (0, 0)) (by (with_reducible repeat (first | refine blk_drewN ?_ _ | refine blk_drew ?_ | refine blk_alloc ?_ _)); exact BK229.out)) : gb248 ≠ gb229))
      have n9_ := Aside0.mk ((by rw [hg]; exact Nat.ne_of_lt (blk_lt (g := gb230) (o := .cells #[.int .u64 a1_0, .int .u64 a1_1] 25 (0, 0)) (by (with_reducible repeat (first | refine blk_drewN ?_ _ | refine blk_drew ?_ | refine blk_alloc ?_ _)); exact BK230.out)) : gb230 ≠ gb248))
      have n10_ := Aside0.mk ((by rw [hg]; exact Nat.ne_of_gt (blk_lt (g := gb230) (o := .cells #[.int .u64 a1_0, .int .u64 a1_1] 25 (0, 0)) (by (with_reducible repeat (first | refine blk_drewN ?_ _ | refine blk_drew ?_ | refine blk_alloc ?_ _)); exact BK230.out)) : gb248 ≠ gb230))
      have n11_ := Aside0.mk ((by rw [hg]; exact Nat.ne_of_lt (blk_lt (g := gb247) (o := .cells #[.int .u32 0, .int .u32 0, .int .u32 0, .int .u32 0, .int .u32 0, .int .u32 0, .int .u32 0, .int .u32 0] 29 (0, 0)) (by (with_reducible repeat (first | refine blk_drewN ?_ _ | refine blk_drew ?_ | refine blk_alloc ?_ _)); exact BK247.out)) : gb247 ≠ gb248))
      have n12_ := Aside0.mk ((by rw [hg]; exact Nat.ne_of_gt (blk_lt (g := gb247) (o := .cells #[.int .u32 0, .int .u32 0, .int .u32 0, .int .u32 0, .int .u32 0, .int .u32 0, .int .u32 0, .int .u32 0] 29 (0, 0)) (by (with_reducible repeat (first | refine blk_drewN ?_ _ | refine blk_drew ?_ | refine blk_alloc ?_ _)); exact BK247.out)) : gb248 ≠ gb247))
      clear BK229
      clear BK230
      clear BK247
      clear HB
      have BK229 := n0_
      have BK230 := n1_
      have BK247 := n2_
      have HB := n3_
      have BK248 := n4_
      have GW248 := n5_
      have GE248 := n6_
      have NB229_248 := n7_
      have NB248_229 := n8_
      have NB230_248 := n9_
      have NB248_230 := n10_
      have NB247_248 := n11_
      have NB248_247 := n12_
      clear n0_ n1_ n2_ n3_ n4_ n5_ n6_ n7_ n8_ n9_ n10_ n11_ n12_
      clear hb hbox hg
      refine hK.out _ _ ⟨(blk_cell BK229.out 0).trans rfl, (blk_cell BK229.out 1).trans rfl, (blk_cell BK230.out 0).trans rfl, (blk_cell BK230.out 1).trans rfl⟩ (fun hHeld => ?_)
      clear hK K
      refine norm_ (a' := ?_) ?_ ?_
      rotate_left
      ·
       show Act.put _ (some 6) _ = _
       simp only [Act.put, List.setIfInBounds_toArray, List.set_cons_zero, List.set_cons_succ, i64_w, i32_w]
       rfl
      exact norm_ (by first | (simp only [putAll, Act.put, List.setIfInBounds_toArray, List.set_cons_zero, List.set_cons_succ]; done) | (simp only [putAll, Act.put, List.setIfInBounds_toArray, List.set_cons_zero, List.set_cons_succ]; rfl)) (hJ1_3_4_5 (gb247, gb248) _ ⟨hHeld, (by (with_reducible repeat (first | refine blk_drewN ?_ _ | refine blk_drew ?_ | refine blk_alloc ?_ _)); exact BK229.out), (by (with_reducible repeat (first | refine blk_drewN ?_ _ | refine blk_drew ?_ | refine blk_alloc ?_ _)); exact BK230.out), (by (with_reducible repeat (first | refine blk_drewN ?_ _ | refine blk_drew ?_ | refine blk_alloc ?_ _)); exact BK247.out), (by (with_reducible repeat (first | refine blk_drewN ?_ _ | refine blk_drew ?_ | refine blk_alloc ?_ _)); exact BK248.out), GW247.out, GE247.out, NB229_247.out, NB247_229.out, NB230_247.out, NB247_230.out, NB248_247.out, NB247_248.out, GW248.out, GE248.out, NB229_248.out, NB248_229.out, NB230_248.out, NB248_230.out, (by repeat (first | (with_reducible first | exact HB.out | apply below_alloc | apply pw_below_drewN | apply below_drew1 | refine below_set ?_ GE229.out | refine below_set ?_ GE230.out | refine below_set ?_ GE247.out | refine below_set ?_ GE248.out) | exact HB.out))⟩)
    rintro ⟨gb247, gb248⟩ w26 ⟨hS_, h0_, h1_, h2_, h3_, h4_, h5_, h6_, h7_, h8_, h9_, h10_, h11_, h12_, h13_, h14_, h15_, h16_, h17_, h18_⟩
    have n0_ : Aside0 (w26.heap[gb229]? = some (.cells #[.int .u64 a0_0, .int .u64 a0_1] 25 (0, 0))) := ⟨h0_⟩
    have n1_ : Aside0 (w26.heap[gb230]? = some (.cells #[.int .u64 a1_0, .int .u64 a1_1] 25 (0, 0))) := ⟨h1_⟩
    have n2_ : Aside0 (w26.heap[gb247]? = some (.cells #[.int .u32 0, .int .u32 0, .int .u32 0, .int .u32 0, .int .u32 0, .int .u32 0, .int .u32 0, .int .u32 0] 29 (0, 0))) := ⟨h2_⟩
    have n3_ : Aside0 (w26.heap[gb248]? = some (.cells #[.int .u32 0, .int .u32 0, .int .u32 0, .int .u32 0, .int .u32 0, .int .u32 0, .int .u32 0, .int .u32 0] 29 (0, 0))) := ⟨h3_⟩
    have n4_ : Aside0 (w.heap.size ≤ gb247) := ⟨h4_⟩
    have n5_ : Aside0 (w.heap.size ≤ gb247) := ⟨h5_⟩
    have n6_ : Aside0 (gb229 ≠ gb247) := ⟨h6_⟩
    have n7_ : Aside0 (gb247 ≠ gb229) := ⟨h7_⟩
    have n8_ : Aside0 (gb230 ≠ gb247) := ⟨h8_⟩
    have n9_ : Aside0 (gb247 ≠ gb230) := ⟨h9_⟩
    have n10_ : Aside0 (gb248 ≠ gb247) := ⟨h10_⟩
    have n11_ : Aside0 (gb247 ≠ gb248) := ⟨h11_⟩
    have n12_ : Aside0 (w.heap.size ≤ gb248) := ⟨h12_⟩
    have n13_ : Aside0 (w.heap.size ≤ gb248) := ⟨h13_⟩
    have n14_ : Aside0 (gb229 ≠ gb248) := ⟨h14_⟩
    have n15_ : Aside0 (gb248 ≠ gb229) := ⟨h15_⟩
    have n16_ : Aside0 (gb230 ≠ gb248) := ⟨h16_⟩
    have n17_ : Aside0 (gb248 ≠ gb230) := ⟨h17_⟩
    have n18_ : Aside0 (Below w.heap.size w w26) := ⟨h18_⟩
    clear BK229
    clear BK230
    clear HB
    clear h0_ h1_ h2_ h3_ h4_ h5_ h6_ h7_ h8_ h9_ h10_ h11_ h12_ h13_ h14_ h15_ h16_ h17_ h18_
    have BK229 := n0_
    have BK230 := n1_
    have BK247 := n2_
    have BK248 := n3_
    have GW247 := n4_
    have GE247 := n5_
    have NB229_247 := n6_
    have NB247_229 := n7_
    have NB230_247 := n8_
    have NB247_230 := n9_
    have NB248_247 := n10_
    have NB247_248 := n11_
    have GW248 := n12_
    have GE248 := n13_
    have NB229_248 := n14_
    have NB248_229 := n15_
    have NB230_248 := n16_
    have NB248_230 := n17_
    have HB := n18_
    clear n0_ n1_ n2_ n3_ n4_ n5_ n6_ n7_ n8_ n9_ n10_ n11_ n12_ n13_ n14_ n15_ n16_ n17_ n18_
    have hHeld : w26.cell? ⟨gb229, 0, none⟩ = some (.int .u64 a0_0) ∧ w26.cell? ⟨gb229, 1, none⟩ = some (.int .u64 a0_1) ∧ w26.cell? ⟨gb230, 0, none⟩ = some (.int .u64 a1_0) ∧ w26.cell? ⟨gb230, 1, none⟩ = some (.int .u64 a1_1) := hS_
    refine norm_ (a' := ?_) ?_ ?_
    rotate_left
    ·
     simp only [putAll, Act.put, List.setIfInBounds_toArray, List.set_cons_zero, List.set_cons_succ]
     rfl
    refine one_ (i := 6) (N := none) #[T, T, T, T, T, T, T, F] rfl rfl (one_of HT_.out (by kernel_rfl)) (by decide) (fun K hK => ?_)
    have hs27 : w26.cell? ⟨gb247, 0, none⟩ = some (.int .u32 0) := (blk_cell BK247.out 0).trans rfl
    have hfs27 := blk_frozen BK247.out 0
    have hns27_0 := NB229_247.out
    have hns27_1 := NB230_247.out
    have hns27_3 := NB248_247.out
    have hms27_0 := NB247_229.out
    have hms27_1 := NB247_230.out
    have hms27_3 := NB247_248.out
    have hs28 : w26.cell? ⟨gb247, 1, none⟩ = some (.int .u32 0) := (blk_cell BK247.out 1).trans rfl
    have hfs28 := blk_frozen BK247.out 1
    have hns28_0 := NB229_247.out
    have hns28_1 := NB230_247.out
    have hns28_3 := NB248_247.out
    have hms28_0 := NB247_229.out
    have hms28_1 := NB247_230.out
    have hms28_3 := NB247_248.out
    have hs29 : w26.cell? ⟨gb247, 2, none⟩ = some (.int .u32 0) := (blk_cell BK247.out 2).trans rfl
    have hfs29 := blk_frozen BK247.out 2
    have hns29_0 := NB229_247.out
    have hns29_1 := NB230_247.out
    have hns29_3 := NB248_247.out
    have hms29_0 := NB247_229.out
    have hms29_1 := NB247_230.out
    have hms29_3 := NB247_248.out
    have hs30 : w26.cell? ⟨gb247, 3, none⟩ = some (.int .u32 0) := (blk_cell BK247.out 3).trans rfl
    have hfs30 := blk_frozen BK247.out 3
    have hns30_0 := NB229_247.out
    have hns30_1 := NB230_247.out
    have hns30_3 := NB248_247.out
    have hms30_0 := NB247_229.out
    have hms30_1 := NB247_230.out
    have hms30_3 := NB247_248.out
    have hs31 : w26.cell? ⟨gb247, 4, none⟩ = some (.int .u32 0) := (blk_cell BK247.out 4).trans rfl
    have hfs31 := blk_frozen BK247.out 4
    have hns31_0 := NB229_247.out
    have hns31_1 := NB230_247.out
    have hns31_3 := NB248_247.out
    have hms31_0 := NB247_229.out
    have hms31_1 := NB247_230.out
    have hms31_3 := NB247_248.out
    have hs32 : w26.cell? ⟨gb247, 5, none⟩ = some (.int .u32 0) := (blk_cell BK247.out 5).trans rfl
    have hfs32 := blk_frozen BK247.out 5
    have hns32_0 := NB229_247.out
    have hns32_1 := NB230_247.out
    have hns32_3 := NB248_247.out
    have hms32_0 := NB247_229.out
    have hms32_1 := NB247_230.out
    have hms32_3 := NB247_248.out
    have hs33 : w26.cell? ⟨gb247, 6, none⟩ = some (.int .u32 0) := (blk_cell BK247.out 6).trans rfl
    have hfs33 := blk_frozen BK247.out 6
    have hns33_0 := NB229_247.out
    have hns33_1 := NB230_247.out
    have hns33_3 := NB248_247.out
    have hms33_0 := NB247_229.out
    have hms33_1 := NB247_230.out
    have hms33_3 := NB247_248.out
    have hs34 : w26.cell? ⟨gb247, 7, none⟩ = some (.int .u32 0) := (blk_cell BK247.out 7).trans rfl
    have hfs34 := blk_frozen BK247.out 7
    have hns34_0 := NB229_247.out
    have hns34_1 := NB230_247.out
    have hns34_3 := NB248_247.out
    have hms34_0 := NB247_229.out
    have hms34_1 := NB247_230.out
    have hms34_3 := NB247_248.out
    refine skip_ (w1 := ?_) (by rfl) rfl ?_ ?_
    rotate_left
    ·
     go_simp
     rfl
    refine hK.out _ _ ⟨((cell_far (p := ⟨gb247, _, none⟩) NB229_247.out _).trans (((cell_far (p := ⟨gb247, _, none⟩) NB229_247.out _).trans (((cell_far (p := ⟨gb247, _, none⟩) NB229_247.out _).trans (((cell_far (p := ⟨gb247, _, none⟩) NB229_247.out _).trans (((cell_far (p := ⟨gb247, _, none⟩) NB229_247.out _).trans (((cell_far (p := ⟨gb247, _, none⟩) NB229_247.out _).trans (((cell_far (p := ⟨gb247, _, none⟩) NB229_247.out _).trans (((cell_far (p := ⟨gb247, _, none⟩) NB229_247.out _).trans (hHeld.1)))))))))))))))), ((cell_far (p := ⟨gb247, _, none⟩) NB229_247.out _).trans (((cell_far (p := ⟨gb247, _, none⟩) NB229_247.out _).trans (((cell_far (p := ⟨gb247, _, none⟩) NB229_247.out _).trans (((cell_far (p := ⟨gb247, _, none⟩) NB229_247.out _).trans (((cell_far (p := ⟨gb247, _, none⟩) NB229_247.out _).trans (((cell_far (p := ⟨gb247, _, none⟩) NB229_247.out _).trans (((cell_far (p := ⟨gb247, _, none⟩) NB229_247.out _).trans (((cell_far (p := ⟨gb247, _, none⟩) NB229_247.out _).trans (hHeld.2.1)))))))))))))))), ((cell_far (p := ⟨gb247, _, none⟩) NB230_247.out _).trans (((cell_far (p := ⟨gb247, _, none⟩) NB230_247.out _).trans (((cell_far (p := ⟨gb247, _, none⟩) NB230_247.out _).trans (((cell_far (p := ⟨gb247, _, none⟩) NB230_247.out _).trans (((cell_far (p := ⟨gb247, _, none⟩) NB230_247.out _).trans (((cell_far (p := ⟨gb247, _, none⟩) NB230_247.out _).trans (((cell_far (p := ⟨gb247, _, none⟩) NB230_247.out _).trans (((cell_far (p := ⟨gb247, _, none⟩) NB230_247.out _).trans (hHeld.2.2.1)))))))))))))))), ((cell_far (p := ⟨gb247, _, none⟩) NB230_247.out _).trans (((cell_far (p := ⟨gb247, _, none⟩) NB230_247.out _).trans (((cell_far (p := ⟨gb247, _, none⟩) NB230_247.out _).trans (((cell_far (p := ⟨gb247, _, none⟩) NB230_247.out _).trans (((cell_far (p := ⟨gb247, _, none⟩) NB230_247.out _).trans (((cell_far (p := ⟨gb247, _, none⟩) NB230_247.out _).trans (((cell_far (p := ⟨gb247, _, none⟩) NB230_247.out _).trans (((cell_far (p := ⟨gb247, _, none⟩) NB230_247.out _).trans (hHeld.2.2.2))))))))))))))))⟩ (fun hHeld => ?_)
    clear hK K
    refine one_ (i := 7) (N := none) #[T, T, T, T, T, T, T, T] rfl rfl (one_of HT_.out (by kernel_rfl)) (by decide) (fun K hK => ?_)
    have hs35 : w26.cell? ⟨gb248, 0, none⟩ = some (.int .u32 0) := (blk_cell BK248.out 0).trans rfl
    have hfs35 := blk_frozen BK248.out 0
    have hns35_0 := NB229_248.out
    have hns35_1 := NB230_248.out
    have hns35_2 := NB247_248.out
    have hms35_0 := NB248_229.out
    have hms35_1 := NB248_230.out
    have hms35_2 := NB248_247.out
    have hs36 : w26.cell? ⟨gb248, 1, none⟩ = some (.int .u32 0) := (blk_cell BK248.out 1).trans rfl
    have hfs36 := blk_frozen BK248.out 1
    have hns36_0 := NB229_248.out
    have hns36_1 := NB230_248.out
    have hns36_2 := NB247_248.out
    have hms36_0 := NB248_229.out
    have hms36_1 := NB248_230.out
    have hms36_2 := NB248_247.out
    have hs37 : w26.cell? ⟨gb248, 2, none⟩ = some (.int .u32 0) := (blk_cell BK248.out 2).trans rfl
    have hfs37 := blk_frozen BK248.out 2
    have hns37_0 := NB229_248.out
    have hns37_1 := NB230_248.out
    have hns37_2 := NB247_248.out
    have hms37_0 := NB248_229.out
    have hms37_1 := NB248_230.out
    have hms37_2 := NB248_247.out
    have hs38 : w26.cell? ⟨gb248, 3, none⟩ = some (.int .u32 0) := (blk_cell BK248.out 3).trans rfl
    have hfs38 := blk_frozen BK248.out 3
    have hns38_0 := NB229_248.out
    have hns38_1 := NB230_248.out
    have hns38_2 := NB247_248.out
    have hms38_0 := NB248_229.out
    have hms38_1 := NB248_230.out
    have hms38_2 := NB248_247.out
    have hs39 : w26.cell? ⟨gb248, 4, none⟩ = some (.int .u32 0) := (blk_cell BK248.out 4).trans rfl
    have hfs39 := blk_frozen BK248.out 4
    have hns39_0 := NB229_248.out
    have hns39_1 := NB230_248.out
    have hns39_2 := NB247_248.out
    have hms39_0 := NB248_229.out
    have hms39_1 := NB248_230.out
    have hms39_2 := NB248_247.out
    have hs40 : w26.cell? ⟨gb248, 5, none⟩ = some (.int .u32 0) := (blk_cell BK248.out 5).trans rfl
    have hfs40 := blk_frozen BK248.out 5
    have hns40_0 := NB229_248.out
    have hns40_1 := NB230_248.out
    have hns40_2 := NB247_248.out
    have hms40_0 := NB248_229.out
    have hms40_1 := NB248_230.out
    have hms40_2 := NB248_247.out
    have hs41 : w26.cell? ⟨gb248, 6, none⟩ = some (.int .u32 0) := (blk_cell BK248.out 6).trans rfl
    have hfs41 := blk_frozen BK248.out 6
    have hns41_0 := NB229_248.out
    have hns41_1 := NB230_248.out
    have hns41_2 := NB247_248.out
    have hms41_0 := NB248_229.out
    have hms41_1 := NB248_230.out
    have hms41_2 := NB248_247.out
    have hs42 : w26.cell? ⟨gb248, 7, none⟩ = some (.int .u32 0) := (blk_cell BK248.out 7).trans rfl
    have hfs42 := blk_frozen BK248.out 7
    have hns42_0 := NB229_248.out
    have hns42_1 := NB230_248.out
    have hns42_2 := NB247_248.out
    have hms42_0 := NB248_229.out
    have hms42_1 := NB248_230.out
    have hms42_2 := NB248_247.out
    generalize hW6 : ((((((((w26.setCell ⟨gb247, 0, none⟩ (.int .u32 t231)).setCell ⟨gb247, 1, none⟩ (.int .u32 t232)).setCell ⟨gb247, 2, none⟩ (.int .u32 t233)).setCell ⟨gb247, 3, none⟩ (.int .u32 t234)).setCell ⟨gb247, 4, none⟩ (.int .u32 t235)).setCell ⟨gb247, 5, none⟩ (.int .u32 t236)).setCell ⟨gb247, 6, none⟩ (.int .u32 t237)).setCell ⟨gb247, 7, none⟩ (.int .u32 t238)) = W6
    refine skip_ (w1 := ((((((((W6.setCell ⟨gb248, 0, none⟩ (.int .u32 t239)).setCell ⟨gb248, 1, none⟩ (.int .u32 t240)).setCell ⟨gb248, 2, none⟩ (.int .u32 t241)).setCell ⟨gb248, 3, none⟩ (.int .u32 t242)).setCell ⟨gb248, 4, none⟩ (.int .u32 t243)).setCell ⟨gb248, 5, none⟩ (.int .u32 t244)).setCell ⟨gb248, 6, none⟩ (.int .u32 t245)).setCell ⟨gb248, 7, none⟩ (.int .u32 t246))) (by rfl) rfl ?_ ?_
    ·
     have B8 := (blk_far (p := ⟨gb247, 7, none⟩) (blk_far (p := ⟨gb247, 6, none⟩) (blk_far (p := ⟨gb247, 5, none⟩) (blk_far (p := ⟨gb247, 4, none⟩) (blk_far (p := ⟨gb247, 3, none⟩) (blk_far (p := ⟨gb247, 2, none⟩) (blk_far (p := ⟨gb247, 1, none⟩) (blk_far (p := ⟨gb247, 0, none⟩) BK248.out NB248_247.out (.int .u32 t231)) NB248_247.out (.int .u32 t232)) NB248_247.out (.int .u32 t233)) NB248_247.out (.int .u32 t234)) NB248_247.out (.int .u32 t235)) NB248_247.out (.int .u32 t236)) NB248_247.out (.int .u32 t237)) NB248_247.out (.int .u32 t238))
     rw [hW6] at B8
     clear hs35 hs36 hs37 hs38 hs39 hs40 hs41 hs42 hfs35 hfs36 hfs37 hfs38 hfs39 hfs40 hfs41 hfs42 hW6
     have e0_ : W6.cell? ⟨gb248, 0, none⟩ = some (.int .u32 0) := (blk_cell B8 0).trans rfl
     have f0_ := blk_frozen B8 0
     have e1_ : W6.cell? ⟨gb248, 1, none⟩ = some (.int .u32 0) := (blk_cell B8 1).trans rfl
     have f1_ := blk_frozen B8 1
     have e2_ : W6.cell? ⟨gb248, 2, none⟩ = some (.int .u32 0) := (blk_cell B8 2).trans rfl
     have f2_ := blk_frozen B8 2
     have e3_ : W6.cell? ⟨gb248, 3, none⟩ = some (.int .u32 0) := (blk_cell B8 3).trans rfl
     have f3_ := blk_frozen B8 3
     have e4_ : W6.cell? ⟨gb248, 4, none⟩ = some (.int .u32 0) := (blk_cell B8 4).trans rfl
     have f4_ := blk_frozen B8 4
     have e5_ : W6.cell? ⟨gb248, 5, none⟩ = some (.int .u32 0) := (blk_cell B8 5).trans rfl
     have f5_ := blk_frozen B8 5
     have e6_ : W6.cell? ⟨gb248, 6, none⟩ = some (.int .u32 0) := (blk_cell B8 6).trans rfl
     have f6_ := blk_frozen B8 6
     have e7_ : W6.cell? ⟨gb248, 7, none⟩ = some (.int .u32 0) := (blk_cell B8 7).trans rfl
     have f7_ := blk_frozen B8 7
     clear B8
     go_simp
    subst hW6
    refine hK.out _ _ ⟨((cell_far (p := ⟨gb248, _, none⟩) NB229_248.out _).trans (((cell_far (p := ⟨gb248, _, none⟩) NB229_248.out _).trans (((cell_far (p := ⟨gb248, _, none⟩) NB229_248.out _).trans (((cell_far (p := ⟨gb248, _, none⟩) NB229_248.out _).trans (((cell_far (p := ⟨gb248, _, none⟩) NB229_248.out _).trans (((cell_far (p := ⟨gb248, _, none⟩) NB229_248.out _).trans (((cell_far (p := ⟨gb248, _, none⟩) NB229_248.out _).trans (((cell_far (p := ⟨gb248, _, none⟩) NB229_248.out _).trans (hHeld.1)))))))))))))))), ((cell_far (p := ⟨gb248, _, none⟩) NB229_248.out _).trans (((cell_far (p := ⟨gb248, _, none⟩) NB229_248.out _).trans (((cell_far (p := ⟨gb248, _, none⟩) NB229_248.out _).trans (((cell_far (p := ⟨gb248, _, none⟩) NB229_248.out _).trans (((cell_far (p := ⟨gb248, _, none⟩) NB229_248.out _).trans (((cell_far (p := ⟨gb248, _, none⟩) NB229_248.out _).trans (((cell_far (p := ⟨gb248, _, none⟩) NB229_248.out _).trans (((cell_far (p := ⟨gb248, _, none⟩) NB229_248.out _).trans (hHeld.2.1)))))))))))))))), ((cell_far (p := ⟨gb248, _, none⟩) NB230_248.out _).trans (((cell_far (p := ⟨gb248, _, none⟩) NB230_248.out _).trans (((cell_far (p := ⟨gb248, _, none⟩) NB230_248.out _).trans (((cell_far (p := ⟨gb248, _, none⟩) NB230_248.out _).trans (((cell_far (p := ⟨gb248, _, none⟩) NB230_248.out _).trans (((cell_far (p := ⟨gb248, _, none⟩) NB230_248.out _).trans (((cell_far (p := ⟨gb248, _, none⟩) NB230_248.out _).trans (((cell_far (p := ⟨gb248, _, none⟩) NB230_248.out _).trans (hHeld.2.2.1)))))))))))))))), ((cell_far (p := ⟨gb248, _, none⟩) NB230_248.out _).trans (((cell_far (p := ⟨gb248, _, none⟩) NB230_248.out _).trans (((cell_far (p := ⟨gb248, _, none⟩) NB230_248.out _).trans (((cell_far (p := ⟨gb248, _, none⟩) NB230_248.out _).trans (((cell_far (p := ⟨gb248, _, none⟩) NB230_248.out _).trans (((cell_far (p := ⟨gb248, _, none⟩) NB230_248.out _).trans (((cell_far (p := ⟨gb248, _, none⟩) NB230_248.out _).trans (((cell_far (p := ⟨gb248, _, none⟩) NB230_248.out _).trans (hHeld.2.2.2))))))))))))))))⟩ (fun hHeld => ?_)
    clear hK K
    refine done_ (done_of HT_.out (by kernel_rfl)) ?_
    try go_wp2
    have n0_ : Aside0 (((((((((((((((((w26.setCell ⟨gb247, 0, none⟩ (.int .u32 t231)).setCell ⟨gb247, 1, none⟩ (.int .u32 t232)).setCell ⟨gb247, 2, none⟩ (.int .u32 t233)).setCell ⟨gb247, 3, none⟩ (.int .u32 t234)).setCell ⟨gb247, 4, none⟩ (.int .u32 t235)).setCell ⟨gb247, 5, none⟩ (.int .u32 t236)).setCell ⟨gb247, 6, none⟩ (.int .u32 t237)).setCell ⟨gb247, 7, none⟩ (.int .u32 t238)).setCell ⟨gb248, 0, none⟩ (.int .u32 t239)).setCell ⟨gb248, 1, none⟩ (.int .u32 t240)).setCell ⟨gb248, 2, none⟩ (.int .u32 t241)).setCell ⟨gb248, 3, none⟩ (.int .u32 t242)).setCell ⟨gb248, 4, none⟩ (.int .u32 t243)).setCell ⟨gb248, 5, none⟩ (.int .u32 t244)).setCell ⟨gb248, 6, none⟩ (.int .u32 t245)).setCell ⟨gb248, 7, none⟩ (.int .u32 t246)).heap[gb229]? = some (.cells #[.int .u64 a0_0, .int .u64 a0_1] 25 (0, 0))) := ⟨by (with_reducible repeat (first | refine blk_drewN ?_ _ | refine blk_drew ?_ | refine blk_alloc ?_ _)); refine blk_far ?_ NB229_248.out _; (with_reducible repeat (first | refine blk_drewN ?_ _ | refine blk_drew ?_ | refine blk_alloc ?_ _)); refine blk_far ?_ NB229_248.out _; (with_reducible repeat (first | refine blk_drewN ?_ _ | refine blk_drew ?_ | refine blk_alloc ?_ _)); refine blk_far ?_ NB229_248.out _; (with_reducible repeat (first | refine blk_drewN ?_ _ | refine blk_drew ?_ | refine blk_alloc ?_ _)); refine blk_far ?_ NB229_248.out _; (with_reducible repeat (first | refine blk_drewN ?_ _ | refine blk_drew ?_ | refine blk_alloc ?_ _)); refine blk_far ?_ NB229_248.out _; (with_reducible repeat (first | refine blk_drewN ?_ _ | refine blk_drew ?_ | refine blk_alloc ?_ _)); refine blk_far ?_ NB229_248.out _; (with_reducible repeat (first | refine blk_drewN ?_ _ | refine blk_drew ?_ | refine blk_alloc ?_ _)); refine blk_far ?_ NB229_248.out _; (with_reducible repeat (first | refine blk_drewN ?_ _ | refine blk_drew ?_ | refine blk_alloc ?_ _)); refine blk_far ?_ NB229_248.out _; (with_reducible repeat (first | refine blk_drewN ?_ _ | refine blk_drew ?_ | refine blk_alloc ?_ _)); refine blk_far ?_ NB229_247.out _; (with_reducible repeat (first | refine blk_drewN ?_ _ | refine blk_drew ?_ | refine blk_alloc ?_ _)); refine blk_far ?_ NB229_247.out _; (with_reducible repeat (first | refine blk_drewN ?_ _ | refine blk_drew ?_ | refine blk_alloc ?_ _)); refine blk_far ?_ NB229_247.out _; (with_reducible repeat (first | refine blk_drewN ?_ _ | refine blk_drew ?_ | refine blk_alloc ?_ _)); refine blk_far ?_ NB229_247.out _; (with_reducible repeat (first | refine blk_drewN ?_ _ | refine blk_drew ?_ | refine blk_alloc ?_ _)); refine blk_far ?_ NB229_247.out _; (with_reducible repeat (first | refine blk_drewN ?_ _ | refine blk_drew ?_ | refine blk_alloc ?_ _)); refine blk_far ?_ NB229_247.out _; (with_reducible repeat (first | refine blk_drewN ?_ _ | refine blk_drew ?_ | refine blk_alloc ?_ _)); refine blk_far ?_ NB229_247.out _; (with_reducible repeat (first | refine blk_drewN ?_ _ | refine blk_drew ?_ | refine blk_alloc ?_ _)); refine blk_far ?_ NB229_247.out _; (with_reducible repeat (first | refine blk_drewN ?_ _ | refine blk_drew ?_ | refine blk_alloc ?_ _)); exact BK229.out⟩
    have n1_ : Aside0 (((((((((((((((((w26.setCell ⟨gb247, 0, none⟩ (.int .u32 t231)).setCell ⟨gb247, 1, none⟩ (.int .u32 t232)).setCell ⟨gb247, 2, none⟩ (.int .u32 t233)).setCell ⟨gb247, 3, none⟩ (.int .u32 t234)).setCell ⟨gb247, 4, none⟩ (.int .u32 t235)).setCell ⟨gb247, 5, none⟩ (.int .u32 t236)).setCell ⟨gb247, 6, none⟩ (.int .u32 t237)).setCell ⟨gb247, 7, none⟩ (.int .u32 t238)).setCell ⟨gb248, 0, none⟩ (.int .u32 t239)).setCell ⟨gb248, 1, none⟩ (.int .u32 t240)).setCell ⟨gb248, 2, none⟩ (.int .u32 t241)).setCell ⟨gb248, 3, none⟩ (.int .u32 t242)).setCell ⟨gb248, 4, none⟩ (.int .u32 t243)).setCell ⟨gb248, 5, none⟩ (.int .u32 t244)).setCell ⟨gb248, 6, none⟩ (.int .u32 t245)).setCell ⟨gb248, 7, none⟩ (.int .u32 t246)).heap[gb230]? = some (.cells #[.int .u64 a1_0, .int .u64 a1_1] 25 (0, 0))) := ⟨by (with_reducible repeat (first | refine blk_drewN ?_ _ | refine blk_drew ?_ | refine blk_alloc ?_ _)); refine blk_far ?_ NB230_248.out _; (with_reducible repeat (first | refine blk_drewN ?_ _ | refine blk_drew ?_ | refine blk_alloc ?_ _)); refine blk_far ?_ NB230_248.out _; (with_reducible repeat (first | refine blk_drewN ?_ _ | refine blk_drew ?_ | refine blk_alloc ?_ _)); refine blk_far ?_ NB230_248.out _; (with_reducible repeat (first | refine blk_drewN ?_ _ | refine blk_drew ?_ | refine blk_alloc ?_ _)); refine blk_far ?_ NB230_248.out _; (with_reducible repeat (first | refine blk_drewN ?_ _ | refine blk_drew ?_ | refine blk_alloc ?_ _)); refine blk_far ?_ NB230_248.out _; (with_reducible repeat (first | refine blk_drewN ?_ _ | refine blk_drew ?_ | refine blk_alloc ?_ _)); refine blk_far ?_ NB230_248.out _; (with_reducible repeat (first | refine blk_drewN ?_ _ | refine blk_drew ?_ | refine blk_alloc ?_ _)); refine blk_far ?_ NB230_248.out _; (with_reducible repeat (first | refine blk_drewN ?_ _ | refine blk_drew ?_ | refine blk_alloc ?_ _)); refine blk_far ?_ NB230_248.out _; (with_reducible repeat (first | refine blk_drewN ?_ _ | refine blk_drew ?_ | refine blk_alloc ?_ _)); refine blk_far ?_ NB230_247.out _; (with_reducible repeat (first | refine blk_drewN ?_ _ | refine blk_drew ?_ | refine blk_alloc ?_ _)); refine blk_far ?_ NB230_247.out _; (with_reducible repeat (first | refine blk_drewN ?_ _ | refine blk_drew ?_ | refine blk_alloc ?_ _)); refine blk_far ?_ NB230_247.out _; (with_reducible repeat (first | refine blk_drewN ?_ _ | refine blk_drew ?_ | refine blk_alloc ?_ _)); refine blk_far ?_ NB230_247.out _; (with_reducible repeat (first | refine blk_drewN ?_ _ | refine blk_drew ?_ | refine blk_alloc ?_ _)); refine blk_far ?_ NB230_247.out _; (with_reducible repeat (first | refine blk_drewN ?_ _ | refine blk_drew ?_ | refine blk_alloc ?_ _)); refine blk_far ?_ NB230_247.out _; (with_reducible repeat (first | refine blk_drewN ?_ _ | refine blk_drew ?_ | refine blk_alloc ?_ _)); refine blk_far ?_ NB230_247.out _; (with_reducible repeat (first | refine blk_drewN ?_ _ | refine blk_drew ?_ | refine blk_alloc ?_ _)); refine blk_far ?_ NB230_247.out _; (with_reducible repeat (first | refine blk_drewN ?_ _ | refine blk_drew ?_ | refine blk_alloc ?_ _)); exact BK230.out⟩
    have n2_ : Aside0 (((((((((((((((((w26.setCell ⟨gb247, 0, none⟩ (.int .u32 t231)).setCell ⟨gb247, 1, none⟩ (.int .u32 t232)).setCell ⟨gb247, 2, none⟩ (.int .u32 t233)).setCell ⟨gb247, 3, none⟩ (.int .u32 t234)).setCell ⟨gb247, 4, none⟩ (.int .u32 t235)).setCell ⟨gb247, 5, none⟩ (.int .u32 t236)).setCell ⟨gb247, 6, none⟩ (.int .u32 t237)).setCell ⟨gb247, 7, none⟩ (.int .u32 t238)).setCell ⟨gb248, 0, none⟩ (.int .u32 t239)).setCell ⟨gb248, 1, none⟩ (.int .u32 t240)).setCell ⟨gb248, 2, none⟩ (.int .u32 t241)).setCell ⟨gb248, 3, none⟩ (.int .u32 t242)).setCell ⟨gb248, 4, none⟩ (.int .u32 t243)).setCell ⟨gb248, 5, none⟩ (.int .u32 t244)).setCell ⟨gb248, 6, none⟩ (.int .u32 t245)).setCell ⟨gb248, 7, none⟩ (.int .u32 t246)).heap[gb247]? = some (.cells #[.int .u32 t231, .int .u32 t232, .int .u32 t233, .int .u32 t234, .int .u32 t235, .int .u32 t236, .int .u32 t237, .int .u32 t238] 29 (0, 0))) := ⟨by (with_reducible repeat (first | refine blk_drewN ?_ _ | refine blk_drew ?_ | refine blk_alloc ?_ _)); refine blk_far ?_ NB247_248.out _; (with_reducible repeat (first | refine blk_drewN ?_ _ | refine blk_drew ?_ | refine blk_alloc ?_ _)); refine blk_far ?_ NB247_248.out _; (with_reducible repeat (first | refine blk_drewN ?_ _ | refine blk_drew ?_ | refine blk_alloc ?_ _)); refine blk_far ?_ NB247_248.out _; (with_reducible repeat (first | refine blk_drewN ?_ _ | refine blk_drew ?_ | refine blk_alloc ?_ _)); refine blk_far ?_ NB247_248.out _; (with_reducible repeat (first | refine blk_drewN ?_ _ | refine blk_drew ?_ | refine blk_alloc ?_ _)); refine blk_far ?_ NB247_248.out _; (with_reducible repeat (first | refine blk_drewN ?_ _ | refine blk_drew ?_ | refine blk_alloc ?_ _)); refine blk_far ?_ NB247_248.out _; (with_reducible repeat (first | refine blk_drewN ?_ _ | refine blk_drew ?_ | refine blk_alloc ?_ _)); refine blk_far ?_ NB247_248.out _; (with_reducible repeat (first | refine blk_drewN ?_ _ | refine blk_drew ?_ | refine blk_alloc ?_ _)); refine blk_far ?_ NB247_248.out _; (with_reducible repeat (first | refine blk_drewN ?_ _ | refine blk_drew ?_ | refine blk_alloc ?_ _)); refine blk_put (cs := #[.int .u32 t231, .int .u32 t232, .int .u32 t233, .int .u32 t234, .int .u32 t235, .int .u32 t236, .int .u32 t237, .int .u32 0]) ?_ 7 _ rfl; (with_reducible repeat (first | refine blk_drewN ?_ _ | refine blk_drew ?_ | refine blk_alloc ?_ _)); refine blk_put (cs := #[.int .u32 t231, .int .u32 t232, .int .u32 t233, .int .u32 t234, .int .u32 t235, .int .u32 t236, .int .u32 0, .int .u32 0]) ?_ 6 _ rfl; (with_reducible repeat (first | refine blk_drewN ?_ _ | refine blk_drew ?_ | refine blk_alloc ?_ _)); refine blk_put (cs := #[.int .u32 t231, .int .u32 t232, .int .u32 t233, .int .u32 t234, .int .u32 t235, .int .u32 0, .int .u32 0, .int .u32 0]) ?_ 5 _ rfl; (with_reducible repeat (first | refine blk_drewN ?_ _ | refine blk_drew ?_ | refine blk_alloc ?_ _)); refine blk_put (cs := #[.int .u32 t231, .int .u32 t232, .int .u32 t233, .int .u32 t234, .int .u32 0, .int .u32 0, .int .u32 0, .int .u32 0]) ?_ 4 _ rfl; (with_reducible repeat (first | refine blk_drewN ?_ _ | refine blk_drew ?_ | refine blk_alloc ?_ _)); refine blk_put (cs := #[.int .u32 t231, .int .u32 t232, .int .u32 t233, .int .u32 0, .int .u32 0, .int .u32 0, .int .u32 0, .int .u32 0]) ?_ 3 _ rfl; (with_reducible repeat (first | refine blk_drewN ?_ _ | refine blk_drew ?_ | refine blk_alloc ?_ _)); refine blk_put (cs := #[.int .u32 t231, .int .u32 t232, .int .u32 0, .int .u32 0, .int .u32 0, .int .u32 0, .int .u32 0, .int .u32 0]) ?_ 2 _ rfl; (with_reducible repeat (first | refine blk_drewN ?_ _ | refine blk_drew ?_ | refine blk_alloc ?_ _)); refine blk_put (cs := #[.int .u32 t231, .int .u32 0, .int .u32 0, .int .u32 0, .int .u32 0, .int .u32 0, .int .u32 0, .int .u32 0]) ?_ 1 _ rfl; (with_reducible repeat (first | refine blk_drewN ?_ _ | refine blk_drew ?_ | refine blk_alloc ?_ _)); refine blk_put (cs := #[.int .u32 0, .int .u32 0, .int .u32 0, .int .u32 0, .int .u32 0, .int .u32 0, .int .u32 0, .int .u32 0]) ?_ 0 _ rfl; (with_reducible repeat (first | refine blk_drewN ?_ _ | refine blk_drew ?_ | refine blk_alloc ?_ _)); exact BK247.out⟩
    have n3_ : Aside0 (((((((((((((((((w26.setCell ⟨gb247, 0, none⟩ (.int .u32 t231)).setCell ⟨gb247, 1, none⟩ (.int .u32 t232)).setCell ⟨gb247, 2, none⟩ (.int .u32 t233)).setCell ⟨gb247, 3, none⟩ (.int .u32 t234)).setCell ⟨gb247, 4, none⟩ (.int .u32 t235)).setCell ⟨gb247, 5, none⟩ (.int .u32 t236)).setCell ⟨gb247, 6, none⟩ (.int .u32 t237)).setCell ⟨gb247, 7, none⟩ (.int .u32 t238)).setCell ⟨gb248, 0, none⟩ (.int .u32 t239)).setCell ⟨gb248, 1, none⟩ (.int .u32 t240)).setCell ⟨gb248, 2, none⟩ (.int .u32 t241)).setCell ⟨gb248, 3, none⟩ (.int .u32 t242)).setCell ⟨gb248, 4, none⟩ (.int .u32 t243)).setCell ⟨gb248, 5, none⟩ (.int .u32 t244)).setCell ⟨gb248, 6, none⟩ (.int .u32 t245)).setCell ⟨gb248, 7, none⟩ (.int .u32 t246)).heap[gb248]? = some (.cells #[.int .u32 t239, .int .u32 t240, .int .u32 t241, .int .u32 t242, .int .u32 t243, .int .u32 t244, .int .u32 t245, .int .u32 t246] 29 (0, 0))) := ⟨by (with_reducible repeat (first | refine blk_drewN ?_ _ | refine blk_drew ?_ | refine blk_alloc ?_ _)); refine blk_put (cs := #[.int .u32 t239, .int .u32 t240, .int .u32 t241, .int .u32 t242, .int .u32 t243, .int .u32 t244, .int .u32 t245, .int .u32 0]) ?_ 7 _ rfl; (with_reducible repeat (first | refine blk_drewN ?_ _ | refine blk_drew ?_ | refine blk_alloc ?_ _)); refine blk_put (cs := #[.int .u32 t239, .int .u32 t240, .int .u32 t241, .int .u32 t242, .int .u32 t243, .int .u32 t244, .int .u32 0, .int .u32 0]) ?_ 6 _ rfl; (with_reducible repeat (first | refine blk_drewN ?_ _ | refine blk_drew ?_ | refine blk_alloc ?_ _)); refine blk_put (cs := #[.int .u32 t239, .int .u32 t240, .int .u32 t241, .int .u32 t242, .int .u32 t243, .int .u32 0, .int .u32 0, .int .u32 0]) ?_ 5 _ rfl; (with_reducible repeat (first | refine blk_drewN ?_ _ | refine blk_drew ?_ | refine blk_alloc ?_ _)); refine blk_put (cs := #[.int .u32 t239, .int .u32 t240, .int .u32 t241, .int .u32 t242, .int .u32 0, .int .u32 0, .int .u32 0, .int .u32 0]) ?_ 4 _ rfl; (with_reducible repeat (first | refine blk_drewN ?_ _ | refine blk_drew ?_ | refine blk_alloc ?_ _)); refine blk_put (cs := #[.int .u32 t239, .int .u32 t240, .int .u32 t241, .int .u32 0, .int .u32 0, .int .u32 0, .int .u32 0, .int .u32 0]) ?_ 3 _ rfl; (with_reducible repeat (first | refine blk_drewN ?_ _ | refine blk_drew ?_ | refine blk_alloc ?_ _)); refine blk_put (cs := #[.int .u32 t239, .int .u32 t240, .int .u32 0, .int .u32 0, .int .u32 0, .int .u32 0, .int .u32 0, .int .u32 0]) ?_ 2 _ rfl; (with_reducible repeat (first | refine blk_drewN ?_ _ | refine blk_drew ?_ | refine blk_alloc ?_ _)); refine blk_put (cs := #[.int .u32 t239, .int .u32 0, .int .u32 0, .int .u32 0, .int .u32 0, .int .u32 0, .int .u32 0, .int .u32 0]) ?_ 1 _ rfl; (with_reducible repeat (first | refine blk_drewN ?_ _ | refine blk_drew ?_ | refine blk_alloc ?_ _)); refine blk_put (cs := #[.int .u32 0, .int .u32 0, .int .u32 0, .int .u32 0, .int .u32 0, .int .u32 0, .int .u32 0, .int .u32 0]) ?_ 0 _ rfl; (with_reducible repeat (first | refine blk_drewN ?_ _ | refine blk_drew ?_ | refine blk_alloc ?_ _)); refine blk_far ?_ NB248_247.out _; (with_reducible repeat (first | refine blk_drewN ?_ _ | refine blk_drew ?_ | refine blk_alloc ?_ _)); refine blk_far ?_ NB248_247.out _; (with_reducible repeat (first | refine blk_drewN ?_ _ | refine blk_drew ?_ | refine blk_alloc ?_ _)); refine blk_far ?_ NB248_247.out _; (with_reducible repeat (first | refine blk_drewN ?_ _ | refine blk_drew ?_ | refine blk_alloc ?_ _)); refine blk_far ?_ NB248_247.out _; (with_reducible repeat (first | refine blk_drewN ?_ _ | refine blk_drew ?_ | refine blk_alloc ?_ _)); refine blk_far ?_ NB248_247.out _; (with_reducible repeat (first | refine blk_drewN ?_ _ | refine blk_drew ?_ | refine blk_alloc ?_ _)); refine blk_far ?_ NB248_247.out _; (with_reducible repeat (first | refine blk_drewN ?_ _ | refine blk_drew ?_ | refine blk_alloc ?_ _)); refine blk_far ?_ NB248_247.out _; (with_reducible repeat (first | refine blk_drewN ?_ _ | refine blk_drew ?_ | refine blk_alloc ?_ _)); refine blk_far ?_ NB248_247.out _; (with_reducible repeat (first | refine blk_drewN ?_ _ | refine blk_drew ?_ | refine blk_alloc ?_ _)); exact BK248.out⟩
    have n4_ : Aside0 (Below w.heap.size w ((((((((((((((((w26.setCell ⟨gb247, 0, none⟩ (.int .u32 t231)).setCell ⟨gb247, 1, none⟩ (.int .u32 t232)).setCell ⟨gb247, 2, none⟩ (.int .u32 t233)).setCell ⟨gb247, 3, none⟩ (.int .u32 t234)).setCell ⟨gb247, 4, none⟩ (.int .u32 t235)).setCell ⟨gb247, 5, none⟩ (.int .u32 t236)).setCell ⟨gb247, 6, none⟩ (.int .u32 t237)).setCell ⟨gb247, 7, none⟩ (.int .u32 t238)).setCell ⟨gb248, 0, none⟩ (.int .u32 t239)).setCell ⟨gb248, 1, none⟩ (.int .u32 t240)).setCell ⟨gb248, 2, none⟩ (.int .u32 t241)).setCell ⟨gb248, 3, none⟩ (.int .u32 t242)).setCell ⟨gb248, 4, none⟩ (.int .u32 t243)).setCell ⟨gb248, 5, none⟩ (.int .u32 t244)).setCell ⟨gb248, 6, none⟩ (.int .u32 t245)).setCell ⟨gb248, 7, none⟩ (.int .u32 t246))) := ⟨by repeat (first | (with_reducible first | exact HB.out | apply below_alloc | apply pw_below_drewN | apply below_drew1 | refine below_set ?_ GE229.out | refine below_set ?_ GE230.out | refine below_set ?_ GE247.out | refine below_set ?_ GE248.out) | exact HB.out)⟩
    (try clear BK229)
    (try clear BK230)
    (try clear BK247)
    (try clear BK248)
    (try clear HB)
    generalize ((((((((((((((((w26.setCell ⟨gb247, 0, none⟩ (.int .u32 t231)).setCell ⟨gb247, 1, none⟩ (.int .u32 t232)).setCell ⟨gb247, 2, none⟩ (.int .u32 t233)).setCell ⟨gb247, 3, none⟩ (.int .u32 t234)).setCell ⟨gb247, 4, none⟩ (.int .u32 t235)).setCell ⟨gb247, 5, none⟩ (.int .u32 t236)).setCell ⟨gb247, 6, none⟩ (.int .u32 t237)).setCell ⟨gb247, 7, none⟩ (.int .u32 t238)).setCell ⟨gb248, 0, none⟩ (.int .u32 t239)).setCell ⟨gb248, 1, none⟩ (.int .u32 t240)).setCell ⟨gb248, 2, none⟩ (.int .u32 t241)).setCell ⟨gb248, 3, none⟩ (.int .u32 t242)).setCell ⟨gb248, 4, none⟩ (.int .u32 t243)).setCell ⟨gb248, 5, none⟩ (.int .u32 t244)).setCell ⟨gb248, 6, none⟩ (.int .u32 t245)).setCell ⟨gb248, 7, none⟩ (.int .u32 t246)) = w43 at n0_ n1_ n2_ n3_ n4_ ⊢
    have BK229 := n0_
    have BK230 := n1_
    have BK247 := n2_
    have BK248 := n3_
    have HB := n4_
    clear n0_ n1_ n2_ n3_ n4_
    have n0_ := Aside0.mk (blk_drew BK229.out)
    have n1_ := Aside0.mk (blk_drew BK230.out)
    have n2_ := Aside0.mk (blk_drew BK247.out)
    have n3_ := Aside0.mk (blk_drew BK248.out)
    have n4_ := Aside0.mk (below_drew1 HB.out)
    clear BK229
    clear BK230
    clear BK247
    clear BK248
    clear HB
    have BK229 := n0_
    have BK230 := n1_
    have BK247 := n2_
    have BK248 := n3_
    have HB := n4_
    clear n0_ n1_ n2_ n3_ n4_
    refine start_ (n := 31) (S := fun w' => w'.cell? ⟨gb229, 0, none⟩ = some (.int .u64 a0_0) ∧ w'.cell? ⟨gb229, 1, none⟩ = some (.int .u64 a0_1) ∧ w'.cell? ⟨gb230, 0, none⟩ = some (.int .u64 a1_0) ∧ w'.cell? ⟨gb230, 1, none⟩ = some (.int .u64 a1_1) ∧ w'.cell? ⟨gb247, 0, none⟩ = some (.int .u32 t231) ∧ w'.cell? ⟨gb247, 1, none⟩ = some (.int .u32 t232) ∧ w'.cell? ⟨gb247, 2, none⟩ = some (.int .u32 t233) ∧ w'.cell? ⟨gb247, 3, none⟩ = some (.int .u32 t234) ∧ w'.cell? ⟨gb247, 4, none⟩ = some (.int .u32 t235) ∧ w'.cell? ⟨gb247, 5, none⟩ = some (.int .u32 t236) ∧ w'.cell? ⟨gb247, 6, none⟩ = some (.int .u32 t237) ∧ w'.cell? ⟨gb247, 7, none⟩ = some (.int .u32 t238) ∧ w'.cell? ⟨gb248, 0, none⟩ = some (.int .u32 t239) ∧ w'.cell? ⟨gb248, 1, none⟩ = some (.int .u32 t240) ∧ w'.cell? ⟨gb248, 2, none⟩ = some (.int .u32 t241) ∧ w'.cell? ⟨gb248, 3, none⟩ = some (.int .u32 t242) ∧ w'.cell? ⟨gb248, 4, none⟩ = some (.int .u32 t243) ∧ w'.cell? ⟨gb248, 5, none⟩ = some (.int .u32 t244) ∧ w'.cell? ⟨gb248, 6, none⟩ = some (.int .u32 t245) ∧ w'.cell? ⟨gb248, 7, none⟩ = some (.int .u32 t246)) (ds := []) #[F, F, F, F, F, F, F, F, F, F, F, F, F, F, F, F, F, F, F, F, F, F, F, F, F, F, F, F, F, F, F] (by kernel_rfl) rfl rfl ⟨(blk_cell BK229.out 0).trans rfl, (blk_cell BK229.out 1).trans rfl, (blk_cell BK230.out 0).trans rfl, (blk_cell BK230.out 1).trans rfl, (blk_cell BK247.out 0).trans rfl, (blk_cell BK247.out 1).trans rfl, (blk_cell BK247.out 2).trans rfl, (blk_cell BK247.out 3).trans rfl, (blk_cell BK247.out 4).trans rfl, (blk_cell BK247.out 5).trans rfl, (blk_cell BK247.out 6).trans rfl, (blk_cell BK247.out 7).trans rfl, (blk_cell BK248.out 0).trans rfl, (blk_cell BK248.out 1).trans rfl, (blk_cell BK248.out 2).trans rfl, (blk_cell BK248.out 3).trans rfl, (blk_cell BK248.out 4).trans rfl, (blk_cell BK248.out 5).trans rfl, (blk_cell BK248.out 6).trans rfl, (blk_cell BK248.out 7).trans rfl⟩ (fun hHeld => ?_); refine with_tabW offertorylaw09_WideSums.tab2 offertorylaw09_WideSums.bits2 (fun HT_ HW_ => ?_)
    generalize w43.drew = w44 at BK229 BK230 BK247 BK248 HB hHeld ⊢
    refine one_ (i := 0) (N := some 11) #[T, F, F, F, F, F, F, F, F, F, F, F, F, F, F, F, F, F, F, F, F, F, F, F, F, F, F, F, F, F, F] rfl rfl (one_of HT_.out (by kernel_rfl)) (by decide) (fun K hK => ?_)
    refine goes_ Try.func8 (by kernel_rfl) rfl #[] (by rfl) rfl rfl (by (try simp only [List.map_toArray, List.map_cons, List.map_nil]); first | done | rfl | (simp only [List.length_drop, List.length_take]; rfl)) ?_
    with_reducible refine (offertorylaw09_awake.calls k  true _ A5.out).mono ?_
    rintro e w45 ⟨rfl, hb⟩
    refine ⟨_, rfl, ?_⟩
    have n0_ := Aside0.mk (blk_below (g := gb229) (o := .cells #[.int .u64 a0_0, .int .u64 a0_1] 25 (0, 0)) (by (with_reducible repeat (first | refine blk_drewN ?_ _ | refine blk_drew ?_ | refine blk_alloc ?_ _)); exact BK229.out) hb)
    have n1_ := Aside0.mk (blk_below (g := gb230) (o := .cells #[.int .u64 a1_0, .int .u64 a1_1] 25 (0, 0)) (by (with_reducible repeat (first | refine blk_drewN ?_ _ | refine blk_drew ?_ | refine blk_alloc ?_ _)); exact BK230.out) hb)
    have n2_ := Aside0.mk (blk_below (g := gb247) (o := .cells #[.int .u32 t231, .int .u32 t232, .int .u32 t233, .int .u32 t234, .int .u32 t235, .int .u32 t236, .int .u32 t237, .int .u32 t238] 29 (0, 0)) (by (with_reducible repeat (first | refine blk_drewN ?_ _ | refine blk_drew ?_ | refine blk_alloc ?_ _)); exact BK247.out) hb)
    have n3_ := Aside0.mk (blk_below (g := gb248) (o := .cells #[.int .u32 t239, .int .u32 t240, .int .u32 t241, .int .u32 t242, .int .u32 t243, .int .u32 t244, .int .u32 t245, .int .u32 t246] 29 (0, 0)) (by (with_reducible repeat (first | refine blk_drewN ?_ _ | refine blk_drew ?_ | refine blk_alloc ?_ _)); exact BK248.out) hb)
    have n4_ := Aside0.mk (below_step (by repeat (first | (with_reducible first | exact HB.out | apply below_alloc | apply pw_below_drewN | apply below_drew1 | refine below_set ?_ GE229.out | refine below_set ?_ GE230.out | refine below_set ?_ GE247.out | refine below_set ?_ GE248.out) | exact HB.out)) hb)
    clear BK229
    clear BK230
    clear BK247
    clear BK248
    clear HB
    have BK229 := n0_
    have BK230 := n1_
    have BK247 := n2_
    have BK248 := n3_
    have HB := n4_
    clear n0_ n1_ n2_ n3_ n4_
    (try clear hb)
    (try clear hb2)
    (try clear hk)
    (try clear hi)
    refine hK.out _ _ ⟨(blk_cell BK229.out 0).trans rfl, (blk_cell BK229.out 1).trans rfl, (blk_cell BK230.out 0).trans rfl, (blk_cell BK230.out 1).trans rfl, (blk_cell BK247.out 0).trans rfl, (blk_cell BK247.out 1).trans rfl, (blk_cell BK247.out 2).trans rfl, (blk_cell BK247.out 3).trans rfl, (blk_cell BK247.out 4).trans rfl, (blk_cell BK247.out 5).trans rfl, (blk_cell BK247.out 6).trans rfl, (blk_cell BK247.out 7).trans rfl, (blk_cell BK248.out 0).trans rfl, (blk_cell BK248.out 1).trans rfl, (blk_cell BK248.out 2).trans rfl, (blk_cell BK248.out 3).trans rfl, (blk_cell BK248.out 4).trans rfl, (blk_cell BK248.out 5).trans rfl, (blk_cell BK248.out 6).trans rfl, (blk_cell BK248.out 7).trans rfl⟩ (fun hHeld => ?_)
    clear hK K
    refine norm_ (a' := ?_) ?_ ?_
    rotate_left
    ·
     show Act.put _ (some 11) _ = _
     simp only [Act.put, List.setIfInBounds_toArray, List.set_cons_zero, List.set_cons_succ, i64_w, i32_w]
     rfl
    refine pure_ (i := 1) (N := some 12) (v := ?_) (a' := ?_) #[T, T, F, F, F, F, F, F, F, F, F, F, F, F, F, F, F, F, F, F, F, F, F, F, F, F, F, F, F, F, F] rfl rfl (any_of HT_.out (by kernel_rfl)) (fun _ _ _ h => h) (Or.inl ⟨by rfl, ?_⟩) ?_ ?_
    rotate_left
    ·
     intro w'
     (try simp only [add_plain] at s0 s1 s2 s3 s4 s5 s6 s7 s8 s9 s10 s11 s12 s13 s14 s15 s16 s17 s18 s19)
     go_simp
     with_reducible rfl
    rotate_left
    ·
     simp only [Act.put, List.setIfInBounds_toArray, List.set_cons_zero, List.set_cons_succ, i64_w, i32_w]
     rfl
    refine take_ (i := 2) (N := some 13) (v := ?_) (a' := ?_) #[T, T, T, F, F, F, F, F, F, F, F, F, F, F, F, F, F, F, F, F, F, F, F, F, F, F, F, F, F, F, F] rfl rfl (take_ofW HT_.out HW_.out (by kernel_rfl)) (fun _ _ _ h => h) (Or.inl ⟨by rfl, ?_⟩) hHeld ?_ ?_
    rotate_left
    ·
     rintro w' ⟨s0, s1, s2, s3, s4, s5, s6, s7, s8, s9, s10, s11, s12, s13, s14, s15, s16, s17, s18, s19⟩
     (try simp only [add_plain] at s0 s1 s2 s3 s4 s5 s6 s7 s8 s9 s10 s11 s12 s13 s14 s15 s16 s17 s18 s19)
     go_simp
     with_reducible rfl
    rotate_left
    ·
     simp only [Act.put, List.setIfInBounds_toArray, List.set_cons_zero, List.set_cons_succ, i64_w, i32_w]
     rfl
    refine take_ (i := 3) (N := some 14) (v := ?_) (a' := ?_) #[T, T, T, T, F, F, F, F, F, F, F, F, F, F, F, F, F, F, F, F, F, F, F, F, F, F, F, F, F, F, F] rfl rfl (take_ofW HT_.out HW_.out (by kernel_rfl)) (fun _ _ _ h => h) (Or.inl ⟨by rfl, ?_⟩) hHeld ?_ ?_
    rotate_left
    ·
     rintro w' ⟨s0, s1, s2, s3, s4, s5, s6, s7, s8, s9, s10, s11, s12, s13, s14, s15, s16, s17, s18, s19⟩
     (try simp only [add_plain] at s0 s1 s2 s3 s4 s5 s6 s7 s8 s9 s10 s11 s12 s13 s14 s15 s16 s17 s18 s19)
     go_simp
     with_reducible rfl
    rotate_left
    ·
     simp only [Act.put, List.setIfInBounds_toArray, List.set_cons_zero, List.set_cons_succ, i64_w, i32_w]
     rfl
    refine take_ (i := 5) (N := some 16) (v := ?_) (a' := ?_) #[T, T, T, T, F, T, F, F, F, F, F, F, F, F, F, F, F, F, F, F, F, F, F, F, F, F, F, F, F, F, F] rfl rfl (take_ofW HT_.out HW_.out (by kernel_rfl)) (fun _ _ _ h => h) (Or.inl ⟨by rfl, ?_⟩) hHeld ?_ ?_
    rotate_left
    ·
     rintro w' ⟨s0, s1, s2, s3, s4, s5, s6, s7, s8, s9, s10, s11, s12, s13, s14, s15, s16, s17, s18, s19⟩
     (try simp only [add_plain] at s0 s1 s2 s3 s4 s5 s6 s7 s8 s9 s10 s11 s12 s13 s14 s15 s16 s17 s18 s19)
     go_simp
     with_reducible rfl
    rotate_left
    ·
     simp only [Act.put, List.setIfInBounds_toArray, List.set_cons_zero, List.set_cons_succ, i64_w, i32_w]
     rfl
    refine take_ (i := 6) (N := some 17) (v := ?_) (a' := ?_) #[T, T, T, T, F, T, T, F, F, F, F, F, F, F, F, F, F, F, F, F, F, F, F, F, F, F, F, F, F, F, F] rfl rfl (take_ofW HT_.out HW_.out (by kernel_rfl)) (fun _ _ _ h => h) (Or.inl ⟨by rfl, ?_⟩) hHeld ?_ ?_
    rotate_left
    ·
     rintro w' ⟨s0, s1, s2, s3, s4, s5, s6, s7, s8, s9, s10, s11, s12, s13, s14, s15, s16, s17, s18, s19⟩
     (try simp only [add_plain] at s0 s1 s2 s3 s4 s5 s6 s7 s8 s9 s10 s11 s12 s13 s14 s15 s16 s17 s18 s19)
     go_simp
     with_reducible rfl
    rotate_left
    ·
     simp only [Act.put, List.setIfInBounds_toArray, List.set_cons_zero, List.set_cons_succ, i64_w, i32_w]
     rfl
    refine one_ (i := 4) (N := some 15) #[T, T, T, T, T, T, T, F, F, F, F, F, F, F, F, F, F, F, F, F, F, F, F, F, F, F, F, F, F, F, F] rfl rfl (one_of HT_.out (by kernel_rfl)) (by decide) (fun K hK => ?_)
    refine goes_ Try.func17 (by kernel_rfl) rfl #[.agg #[.int .u64 a0_0, .int .u64 a0_1], .agg #[.int .u64 a1_0, .int .u64 a1_1]] (by rfl) rfl rfl (by (try simp only [List.map_toArray, List.map_cons, List.map_nil]); first | done | rfl | (simp only [List.length_drop, List.length_take]; rfl)) ?_
    with_reducible refine (wide_Add.calls a0_0 a0_1 a1_0 a1_1 t250 t251 _ A7.out).mono ?_
    rintro e w46 ⟨rfl, hb⟩
    refine ⟨_, rfl, ?_⟩
    have n0_ := Aside0.mk (blk_below (g := gb229) (o := .cells #[.int .u64 a0_0, .int .u64 a0_1] 25 (0, 0)) (by (with_reducible repeat (first | refine blk_drewN ?_ _ | refine blk_drew ?_ | refine blk_alloc ?_ _)); exact BK229.out) hb)
    have n1_ := Aside0.mk (blk_below (g := gb230) (o := .cells #[.int .u64 a1_0, .int .u64 a1_1] 25 (0, 0)) (by (with_reducible repeat (first | refine blk_drewN ?_ _ | refine blk_drew ?_ | refine blk_alloc ?_ _)); exact BK230.out) hb)
    have n2_ := Aside0.mk (blk_below (g := gb247) (o := .cells #[.int .u32 t231, .int .u32 t232, .int .u32 t233, .int .u32 t234, .int .u32 t235, .int .u32 t236, .int .u32 t237, .int .u32 t238] 29 (0, 0)) (by (with_reducible repeat (first | refine blk_drewN ?_ _ | refine blk_drew ?_ | refine blk_alloc ?_ _)); exact BK247.out) hb)
    have n3_ := Aside0.mk (blk_below (g := gb248) (o := .cells #[.int .u32 t239, .int .u32 t240, .int .u32 t241, .int .u32 t242, .int .u32 t243, .int .u32 t244, .int .u32 t245, .int .u32 t246] 29 (0, 0)) (by (with_reducible repeat (first | refine blk_drewN ?_ _ | refine blk_drew ?_ | refine blk_alloc ?_ _)); exact BK248.out) hb)
    have n4_ := Aside0.mk (below_step (by repeat (first | (with_reducible first | exact HB.out | apply below_alloc | apply pw_below_drewN | apply below_drew1 | refine below_set ?_ GE229.out | refine below_set ?_ GE230.out | refine below_set ?_ GE247.out | refine below_set ?_ GE248.out) | exact HB.out)) hb)
    clear BK229
    clear BK230
    clear BK247
    clear BK248
    clear HB
    have BK229 := n0_
    have BK230 := n1_
    have BK247 := n2_
    have BK248 := n3_
    have HB := n4_
    clear n0_ n1_ n2_ n3_ n4_
    (try clear hb)
    (try clear hb2)
    (try clear hk)
    (try clear hi)
    refine hK.out _ _ ⟨(blk_cell BK229.out 0).trans rfl, (blk_cell BK229.out 1).trans rfl, (blk_cell BK230.out 0).trans rfl, (blk_cell BK230.out 1).trans rfl, (blk_cell BK247.out 0).trans rfl, (blk_cell BK247.out 1).trans rfl, (blk_cell BK247.out 2).trans rfl, (blk_cell BK247.out 3).trans rfl, (blk_cell BK247.out 4).trans rfl, (blk_cell BK247.out 5).trans rfl, (blk_cell BK247.out 6).trans rfl, (blk_cell BK247.out 7).trans rfl, (blk_cell BK248.out 0).trans rfl, (blk_cell BK248.out 1).trans rfl, (blk_cell BK248.out 2).trans rfl, (blk_cell BK248.out 3).trans rfl, (blk_cell BK248.out 4).trans rfl, (blk_cell BK248.out 5).trans rfl, (blk_cell BK248.out 6).trans rfl, (blk_cell BK248.out 7).trans rfl⟩ (fun hHeld => ?_)
    clear hK K
    refine norm_ (a' := ?_) ?_ ?_
    rotate_left
    ·
     show Act.put _ (some 15) _ = _
     simp only [Act.put, List.setIfInBounds_toArray, List.set_cons_zero, List.set_cons_succ, i64_w, i32_w]
     rfl
    refine one_ (i := 7) (N := some 18) #[T, T, T, T, T, T, T, T, F, F, F, F, F, F, F, F, F, F, F, F, F, F, F, F, F, F, F, F, F, F, F] rfl rfl (one_of HT_.out (by kernel_rfl)) (by decide) (fun K hK => ?_)
    refine goes_ Try.func18 (by kernel_rfl) rfl #[.agg #[.int .u32 t231, .int .u32 t232, .int .u32 t233, .int .u32 t234, .int .u32 t235, .int .u32 t236, .int .u32 t237, .int .u32 t238], .agg #[.int .u32 t239, .int .u32 t240, .int .u32 t241, .int .u32 t242, .int .u32 t243, .int .u32 t244, .int .u32 t245, .int .u32 t246]] (by rfl) rfl rfl (by (try simp only [List.map_toArray, List.map_cons, List.map_nil]); first | done | rfl | (simp only [List.length_drop, List.length_take]; rfl)) ?_
    with_reducible refine (offertoryref09_Add.calls t231 t232 t233 t234 t235 t236 t237 t238 t239 t240 t241 t242 t243 t244 t245 t246 t252 t253 t254 t255 t256 t257 t258 t259 _ A8.out).mono ?_
    rintro e w47 ⟨rfl, hb⟩
    refine ⟨_, rfl, ?_⟩
    have n0_ := Aside0.mk (blk_below (g := gb229) (o := .cells #[.int .u64 a0_0, .int .u64 a0_1] 25 (0, 0)) (by (with_reducible repeat (first | refine blk_drewN ?_ _ | refine blk_drew ?_ | refine blk_alloc ?_ _)); exact BK229.out) hb)
    have n1_ := Aside0.mk (blk_below (g := gb230) (o := .cells #[.int .u64 a1_0, .int .u64 a1_1] 25 (0, 0)) (by (with_reducible repeat (first | refine blk_drewN ?_ _ | refine blk_drew ?_ | refine blk_alloc ?_ _)); exact BK230.out) hb)
    have n2_ := Aside0.mk (blk_below (g := gb247) (o := .cells #[.int .u32 t231, .int .u32 t232, .int .u32 t233, .int .u32 t234, .int .u32 t235, .int .u32 t236, .int .u32 t237, .int .u32 t238] 29 (0, 0)) (by (with_reducible repeat (first | refine blk_drewN ?_ _ | refine blk_drew ?_ | refine blk_alloc ?_ _)); exact BK247.out) hb)
    have n3_ := Aside0.mk (blk_below (g := gb248) (o := .cells #[.int .u32 t239, .int .u32 t240, .int .u32 t241, .int .u32 t242, .int .u32 t243, .int .u32 t244, .int .u32 t245, .int .u32 t246] 29 (0, 0)) (by (with_reducible repeat (first | refine blk_drewN ?_ _ | refine blk_drew ?_ | refine blk_alloc ?_ _)); exact BK248.out) hb)
    have n4_ := Aside0.mk (below_step (by repeat (first | (with_reducible first | exact HB.out | apply below_alloc | apply pw_below_drewN | apply below_drew1 | refine below_set ?_ GE229.out | refine below_set ?_ GE230.out | refine below_set ?_ GE247.out | refine below_set ?_ GE248.out) | exact HB.out)) hb)
    clear BK229
    clear BK230
    clear BK247
    clear BK248
    clear HB
    have BK229 := n0_
    have BK230 := n1_
    have BK247 := n2_
    have BK248 := n3_
    have HB := n4_
    clear n0_ n1_ n2_ n3_ n4_
    (try clear hb)
    (try clear hb2)
    (try clear hk)
    (try clear hi)
    refine hK.out _ _ ⟨(blk_cell BK229.out 0).trans rfl, (blk_cell BK229.out 1).trans rfl, (blk_cell BK230.out 0).trans rfl, (blk_cell BK230.out 1).trans rfl, (blk_cell BK247.out 0).trans rfl, (blk_cell BK247.out 1).trans rfl, (blk_cell BK247.out 2).trans rfl, (blk_cell BK247.out 3).trans rfl, (blk_cell BK247.out 4).trans rfl, (blk_cell BK247.out 5).trans rfl, (blk_cell BK247.out 6).trans rfl, (blk_cell BK247.out 7).trans rfl, (blk_cell BK248.out 0).trans rfl, (blk_cell BK248.out 1).trans rfl, (blk_cell BK248.out 2).trans rfl, (blk_cell BK248.out 3).trans rfl, (blk_cell BK248.out 4).trans rfl, (blk_cell BK248.out 5).trans rfl, (blk_cell BK248.out 6).trans rfl, (blk_cell BK248.out 7).trans rfl⟩ (fun hHeld => ?_)
    clear hK K
    refine norm_ (a' := ?_) ?_ ?_
    rotate_left
    ·
     show Act.put _ (some 18) _ = _
     simp only [Act.put, List.setIfInBounds_toArray, List.set_cons_zero, List.set_cons_succ, i64_w, i32_w]
     rfl
    refine one_ (i := 8) (N := some 19) #[T, T, T, T, T, T, T, T, T, F, F, F, F, F, F, F, F, F, F, F, F, F, F, F, F, F, F, F, F, F, F] rfl rfl (one_of HT_.out (by kernel_rfl)) (by decide) (fun K hK => ?_)
    refine goes_ Try.func12 (by kernel_rfl) rfl #[.agg #[.int .u32 t252, .int .u32 t253, .int .u32 t254, .int .u32 t255, .int .u32 t256, .int .u32 t257, .int .u32 t258, .int .u32 t259]] (by rfl) rfl rfl (by (try simp only [List.map_toArray, List.map_cons, List.map_nil]); first | done | rfl | (simp only [List.length_drop, List.length_take]; rfl)) ?_
    with_reducible refine (offertoryref09_Big_Wide.calls t252 t253 t254 t255 t256 t257 t258 t259 t260 t261 _ A9.out).mono ?_
    rintro e w48 ⟨rfl, hb⟩
    refine ⟨_, rfl, ?_⟩
    have n0_ := Aside0.mk (blk_below (g := gb229) (o := .cells #[.int .u64 a0_0, .int .u64 a0_1] 25 (0, 0)) (by (with_reducible repeat (first | refine blk_drewN ?_ _ | refine blk_drew ?_ | refine blk_alloc ?_ _)); exact BK229.out) hb)
    have n1_ := Aside0.mk (blk_below (g := gb230) (o := .cells #[.int .u64 a1_0, .int .u64 a1_1] 25 (0, 0)) (by (with_reducible repeat (first | refine blk_drewN ?_ _ | refine blk_drew ?_ | refine blk_alloc ?_ _)); exact BK230.out) hb)
    have n2_ := Aside0.mk (blk_below (g := gb247) (o := .cells #[.int .u32 t231, .int .u32 t232, .int .u32 t233, .int .u32 t234, .int .u32 t235, .int .u32 t236, .int .u32 t237, .int .u32 t238] 29 (0, 0)) (by (with_reducible repeat (first | refine blk_drewN ?_ _ | refine blk_drew ?_ | refine blk_alloc ?_ _)); exact BK247.out) hb)
    have n3_ := Aside0.mk (blk_below (g := gb248) (o := .cells #[.int .u32 t239, .int .u32 t240, .int .u32 t241, .int .u32 t242, .int .u32 t243, .int .u32 t244, .int .u32 t245, .int .u32 t246] 29 (0, 0)) (by (with_reducible repeat (first | refine blk_drewN ?_ _ | refine blk_drew ?_ | refine blk_alloc ?_ _)); exact BK248.out) hb)
    have n4_ := Aside0.mk (below_step (by repeat (first | (with_reducible first | exact HB.out | apply below_alloc | apply pw_below_drewN | apply below_drew1 | refine below_set ?_ GE229.out | refine below_set ?_ GE230.out | refine below_set ?_ GE247.out | refine below_set ?_ GE248.out) | exact HB.out)) hb)
    clear BK229
    clear BK230
    clear BK247
    clear BK248
    clear HB
    have BK229 := n0_
    have BK230 := n1_
    have BK247 := n2_
    have BK248 := n3_
    have HB := n4_
    clear n0_ n1_ n2_ n3_ n4_
    (try clear hb)
    (try clear hb2)
    (try clear hk)
    (try clear hi)
    refine hK.out _ _ ⟨(blk_cell BK229.out 0).trans rfl, (blk_cell BK229.out 1).trans rfl, (blk_cell BK230.out 0).trans rfl, (blk_cell BK230.out 1).trans rfl, (blk_cell BK247.out 0).trans rfl, (blk_cell BK247.out 1).trans rfl, (blk_cell BK247.out 2).trans rfl, (blk_cell BK247.out 3).trans rfl, (blk_cell BK247.out 4).trans rfl, (blk_cell BK247.out 5).trans rfl, (blk_cell BK247.out 6).trans rfl, (blk_cell BK247.out 7).trans rfl, (blk_cell BK248.out 0).trans rfl, (blk_cell BK248.out 1).trans rfl, (blk_cell BK248.out 2).trans rfl, (blk_cell BK248.out 3).trans rfl, (blk_cell BK248.out 4).trans rfl, (blk_cell BK248.out 5).trans rfl, (blk_cell BK248.out 6).trans rfl, (blk_cell BK248.out 7).trans rfl⟩ (fun hHeld => ?_)
    clear hK K
    refine norm_ (a' := ?_) ?_ ?_
    rotate_left
    ·
     show Act.put _ (some 19) _ = _
     simp only [Act.put, List.setIfInBounds_toArray, List.set_cons_zero, List.set_cons_succ, i64_w, i32_w]
     rfl
    refine pure_ (i := 9) (N := some 20) (v := ?_) (a' := ?_) #[T, T, T, T, T, T, T, T, T, T, F, F, F, F, F, F, F, F, F, F, F, F, F, F, F, F, F, F, F, F, F] rfl rfl (any_of HT_.out (by kernel_rfl)) (fun _ _ _ h => h) (Or.inl ⟨by rfl, ?_⟩) ?_ ?_
    rotate_left
    ·
     intro w'
     (try simp only [add_plain] at s0 s1 s2 s3 s4 s5 s6 s7 s8 s9 s10 s11 s12 s13 s14 s15 s16 s17 s18 s19)
     go_simp
     with_reducible rfl
    rotate_left
    ·
     simp only [Act.put, List.setIfInBounds_toArray, List.set_cons_zero, List.set_cons_succ, i64_w, i32_w]
     rfl
    refine pure_ (i := 10) (N := some 21) (v := ?_) (a' := ?_) #[T, T, T, T, T, T, T, T, T, T, T, F, F, F, F, F, F, F, F, F, F, F, F, F, F, F, F, F, F, F, F] rfl rfl (any_of HT_.out (by kernel_rfl)) (fun _ _ _ h => h) (Or.inl ⟨by rfl, ?_⟩) ?_ ?_
    rotate_left
    ·
     intro w'
     (try simp only [add_plain] at s0 s1 s2 s3 s4 s5 s6 s7 s8 s9 s10 s11 s12 s13 s14 s15 s16 s17 s18 s19)
     go_simp
     with_reducible rfl
    rotate_left
    ·
     simp only [Act.put, List.setIfInBounds_toArray, List.set_cons_zero, List.set_cons_succ, i64_w, i32_w]
     rfl
    refine pure_ (i := 11) (N := some 22) (v := ?_) (a' := ?_) #[T, T, T, T, T, T, T, T, T, T, T, T, F, F, F, F, F, F, F, F, F, F, F, F, F, F, F, F, F, F, F] rfl rfl (any_of HT_.out (by kernel_rfl)) (fun _ _ _ h => h) (Or.inl ⟨by rfl, ?_⟩) ?_ ?_
    rotate_left
    ·
     intro w'
     (try simp only [add_plain] at s0 s1 s2 s3 s4 s5 s6 s7 s8 s9 s10 s11 s12 s13 s14 s15 s16 s17 s18 s19)
     go_simp
     with_reducible rfl
    rotate_left
    ·
     simp only [Act.put, List.setIfInBounds_toArray, List.set_cons_zero, List.set_cons_succ, i64_w, i32_w]
     rfl
    refine take_ (i := 12) (N := some 23) (v := ?_) (a' := ?_) #[T, T, T, T, T, T, T, T, T, T, T, T, T, F, F, F, F, F, F, F, F, F, F, F, F, F, F, F, F, F, F] rfl rfl (take_ofW HT_.out HW_.out (by kernel_rfl)) (fun _ _ _ h => h) (Or.inl ⟨by rfl, ?_⟩) hHeld ?_ ?_
    rotate_left
    ·
     rintro w' ⟨s0, s1, s2, s3, s4, s5, s6, s7, s8, s9, s10, s11, s12, s13, s14, s15, s16, s17, s18, s19⟩
     (try simp only [add_plain] at s0 s1 s2 s3 s4 s5 s6 s7 s8 s9 s10 s11 s12 s13 s14 s15 s16 s17 s18 s19)
     go_simp
     with_reducible rfl
    rotate_left
    ·
     simp only [Act.put, List.setIfInBounds_toArray, List.set_cons_zero, List.set_cons_succ, i64_w, i32_w]
     rfl
    refine take_ (i := 13) (N := some 24) (v := ?_) (a' := ?_) #[T, T, T, T, T, T, T, T, T, T, T, T, T, T, F, F, F, F, F, F, F, F, F, F, F, F, F, F, F, F, F] rfl rfl (take_ofW HT_.out HW_.out (by kernel_rfl)) (fun _ _ _ h => h) (Or.inl ⟨by rfl, ?_⟩) hHeld ?_ ?_
    rotate_left
    ·
     rintro w' ⟨s0, s1, s2, s3, s4, s5, s6, s7, s8, s9, s10, s11, s12, s13, s14, s15, s16, s17, s18, s19⟩
     (try simp only [add_plain] at s0 s1 s2 s3 s4 s5 s6 s7 s8 s9 s10 s11 s12 s13 s14 s15 s16 s17 s18 s19)
     go_simp
     with_reducible rfl
    rotate_left
    ·
     simp only [Act.put, List.setIfInBounds_toArray, List.set_cons_zero, List.set_cons_succ, i64_w, i32_w]
     rfl
    refine take_ (i := 15) (N := some 26) (v := ?_) (a' := ?_) #[T, T, T, T, T, T, T, T, T, T, T, T, T, T, F, T, F, F, F, F, F, F, F, F, F, F, F, F, F, F, F] rfl rfl (take_ofW HT_.out HW_.out (by kernel_rfl)) (fun _ _ _ h => h) (Or.inl ⟨by rfl, ?_⟩) hHeld ?_ ?_
    rotate_left
    ·
     rintro w' ⟨s0, s1, s2, s3, s4, s5, s6, s7, s8, s9, s10, s11, s12, s13, s14, s15, s16, s17, s18, s19⟩
     (try simp only [add_plain] at s0 s1 s2 s3 s4 s5 s6 s7 s8 s9 s10 s11 s12 s13 s14 s15 s16 s17 s18 s19)
     go_simp
     with_reducible rfl
    rotate_left
    ·
     simp only [Act.put, List.setIfInBounds_toArray, List.set_cons_zero, List.set_cons_succ, i64_w, i32_w]
     rfl
    refine take_ (i := 16) (N := some 27) (v := ?_) (a' := ?_) #[T, T, T, T, T, T, T, T, T, T, T, T, T, T, F, T, T, F, F, F, F, F, F, F, F, F, F, F, F, F, F] rfl rfl (take_ofW HT_.out HW_.out (by kernel_rfl)) (fun _ _ _ h => h) (Or.inl ⟨by rfl, ?_⟩) hHeld ?_ ?_
    rotate_left
    ·
     rintro w' ⟨s0, s1, s2, s3, s4, s5, s6, s7, s8, s9, s10, s11, s12, s13, s14, s15, s16, s17, s18, s19⟩
     (try simp only [add_plain] at s0 s1 s2 s3 s4 s5 s6 s7 s8 s9 s10 s11 s12 s13 s14 s15 s16 s17 s18 s19)
     go_simp
     with_reducible rfl
    rotate_left
    ·
     simp only [Act.put, List.setIfInBounds_toArray, List.set_cons_zero, List.set_cons_succ, i64_w, i32_w]
     rfl
    refine one_ (i := 14) (N := some 25) #[T, T, T, T, T, T, T, T, T, T, T, T, T, T, T, T, T, F, F, F, F, F, F, F, F, F, F, F, F, F, F] rfl rfl (one_of HT_.out (by kernel_rfl)) (by decide) (fun K hK => ?_)
    refine goes_ Try.func19 (by kernel_rfl) rfl #[.agg #[.int .u64 a0_0, .int .u64 a0_1], .agg #[.int .u64 a1_0, .int .u64 a1_1]] (by rfl) rfl rfl (by (try simp only [List.map_toArray, List.map_cons, List.map_nil]); first | done | rfl | (simp only [List.length_drop, List.length_take]; rfl)) ?_
    with_reducible refine (wide_Sub.calls a0_0 a0_1 a1_0 a1_1 t262 t263 _ A11.out).mono ?_
    rintro e w49 ⟨rfl, hb⟩
    refine ⟨_, rfl, ?_⟩
    have n0_ := Aside0.mk (blk_below (g := gb229) (o := .cells #[.int .u64 a0_0, .int .u64 a0_1] 25 (0, 0)) (by (with_reducible repeat (first | refine blk_drewN ?_ _ | refine blk_drew ?_ | refine blk_alloc ?_ _)); exact BK229.out) hb)
    have n1_ := Aside0.mk (blk_below (g := gb230) (o := .cells #[.int .u64 a1_0, .int .u64 a1_1] 25 (0, 0)) (by (with_reducible repeat (first | refine blk_drewN ?_ _ | refine blk_drew ?_ | refine blk_alloc ?_ _)); exact BK230.out) hb)
    have n2_ := Aside0.mk (blk_below (g := gb247) (o := .cells #[.int .u32 t231, .int .u32 t232, .int .u32 t233, .int .u32 t234, .int .u32 t235, .int .u32 t236, .int .u32 t237, .int .u32 t238] 29 (0, 0)) (by (with_reducible repeat (first | refine blk_drewN ?_ _ | refine blk_drew ?_ | refine blk_alloc ?_ _)); exact BK247.out) hb)
    have n3_ := Aside0.mk (blk_below (g := gb248) (o := .cells #[.int .u32 t239, .int .u32 t240, .int .u32 t241, .int .u32 t242, .int .u32 t243, .int .u32 t244, .int .u32 t245, .int .u32 t246] 29 (0, 0)) (by (with_reducible repeat (first | refine blk_drewN ?_ _ | refine blk_drew ?_ | refine blk_alloc ?_ _)); exact BK248.out) hb)
    have n4_ := Aside0.mk (below_step (by repeat (first | (with_reducible first | exact HB.out | apply below_alloc | apply pw_below_drewN | apply below_drew1 | refine below_set ?_ GE229.out | refine below_set ?_ GE230.out | refine below_set ?_ GE247.out | refine below_set ?_ GE248.out) | exact HB.out)) hb)
    clear BK229
    clear BK230
    clear BK247
    clear BK248
    clear HB
    have BK229 := n0_
    have BK230 := n1_
    have BK247 := n2_
    have BK248 := n3_
    have HB := n4_
    clear n0_ n1_ n2_ n3_ n4_
    (try clear hb)
    (try clear hb2)
    (try clear hk)
    (try clear hi)
    refine hK.out _ _ ⟨(blk_cell BK229.out 0).trans rfl, (blk_cell BK229.out 1).trans rfl, (blk_cell BK230.out 0).trans rfl, (blk_cell BK230.out 1).trans rfl, (blk_cell BK247.out 0).trans rfl, (blk_cell BK247.out 1).trans rfl, (blk_cell BK247.out 2).trans rfl, (blk_cell BK247.out 3).trans rfl, (blk_cell BK247.out 4).trans rfl, (blk_cell BK247.out 5).trans rfl, (blk_cell BK247.out 6).trans rfl, (blk_cell BK247.out 7).trans rfl, (blk_cell BK248.out 0).trans rfl, (blk_cell BK248.out 1).trans rfl, (blk_cell BK248.out 2).trans rfl, (blk_cell BK248.out 3).trans rfl, (blk_cell BK248.out 4).trans rfl, (blk_cell BK248.out 5).trans rfl, (blk_cell BK248.out 6).trans rfl, (blk_cell BK248.out 7).trans rfl⟩ (fun hHeld => ?_)
    clear hK K
    refine norm_ (a' := ?_) ?_ ?_
    rotate_left
    ·
     show Act.put _ (some 25) _ = _
     simp only [Act.put, List.setIfInBounds_toArray, List.set_cons_zero, List.set_cons_succ, i64_w, i32_w]
     rfl
    refine one_ (i := 17) (N := some 28) #[T, T, T, T, T, T, T, T, T, T, T, T, T, T, T, T, T, T, F, F, F, F, F, F, F, F, F, F, F, F, F] rfl rfl (one_of HT_.out (by kernel_rfl)) (by decide) (fun K hK => ?_)
    refine goes_ Try.func20 (by kernel_rfl) rfl #[.agg #[.int .u32 t239, .int .u32 t240, .int .u32 t241, .int .u32 t242, .int .u32 t243, .int .u32 t244, .int .u32 t245, .int .u32 t246]] (by rfl) rfl rfl (by (try simp only [List.map_toArray, List.map_cons, List.map_nil]); first | done | rfl | (simp only [List.length_drop, List.length_take]; rfl)) ?_
    with_reducible refine (offertoryref09_Neg.calls t239 t240 t241 t242 t243 t244 t245 t246 t264 t265 t266 t267 t268 t269 t270 t271 _ A12.out).mono ?_
    rintro e w50 ⟨rfl, hb⟩
    refine ⟨_, rfl, ?_⟩
    have n0_ := Aside0.mk (blk_below (g := gb229) (o := .cells #[.int .u64 a0_0, .int .u64 a0_1] 25 (0, 0)) (by (with_reducible repeat (first | refine blk_drewN ?_ _ | refine blk_drew ?_ | refine blk_alloc ?_ _)); exact BK229.out) hb)
    have n1_ := Aside0.mk (blk_below (g := gb230) (o := .cells #[.int .u64 a1_0, .int .u64 a1_1] 25 (0, 0)) (by (with_reducible repeat (first | refine blk_drewN ?_ _ | refine blk_drew ?_ | refine blk_alloc ?_ _)); exact BK230.out) hb)
    have n2_ := Aside0.mk (blk_below (g := gb247) (o := .cells #[.int .u32 t231, .int .u32 t232, .int .u32 t233, .int .u32 t234, .int .u32 t235, .int .u32 t236, .int .u32 t237, .int .u32 t238] 29 (0, 0)) (by (with_reducible repeat (first | refine blk_drewN ?_ _ | refine blk_drew ?_ | refine blk_alloc ?_ _)); exact BK247.out) hb)
    have n3_ := Aside0.mk (blk_below (g := gb248) (o := .cells #[.int .u32 t239, .int .u32 t240, .int .u32 t241, .int .u32 t242, .int .u32 t243, .int .u32 t244, .int .u32 t245, .int .u32 t246] 29 (0, 0)) (by (with_reducible repeat (first | refine blk_drewN ?_ _ | refine blk_drew ?_ | refine blk_alloc ?_ _)); exact BK248.out) hb)
    have n4_ := Aside0.mk (below_step (by repeat (first | (with_reducible first | exact HB.out | apply below_alloc | apply pw_below_drewN | apply below_drew1 | refine below_set ?_ GE229.out | refine below_set ?_ GE230.out | refine below_set ?_ GE247.out | refine below_set ?_ GE248.out) | exact HB.out)) hb)
    clear BK229
    clear BK230
    clear BK247
    clear BK248
    clear HB
    have BK229 := n0_
    have BK230 := n1_
    have BK247 := n2_
    have BK248 := n3_
    have HB := n4_
    clear n0_ n1_ n2_ n3_ n4_
    (try clear hb)
    (try clear hb2)
    (try clear hk)
    (try clear hi)
    refine hK.out _ _ ⟨(blk_cell BK229.out 0).trans rfl, (blk_cell BK229.out 1).trans rfl, (blk_cell BK230.out 0).trans rfl, (blk_cell BK230.out 1).trans rfl, (blk_cell BK247.out 0).trans rfl, (blk_cell BK247.out 1).trans rfl, (blk_cell BK247.out 2).trans rfl, (blk_cell BK247.out 3).trans rfl, (blk_cell BK247.out 4).trans rfl, (blk_cell BK247.out 5).trans rfl, (blk_cell BK247.out 6).trans rfl, (blk_cell BK247.out 7).trans rfl, (blk_cell BK248.out 0).trans rfl, (blk_cell BK248.out 1).trans rfl, (blk_cell BK248.out 2).trans rfl, (blk_cell BK248.out 3).trans rfl, (blk_cell BK248.out 4).trans rfl, (blk_cell BK248.out 5).trans rfl, (blk_cell BK248.out 6).trans rfl, (blk_cell BK248.out 7).trans rfl⟩ (fun hHeld => ?_)
    clear hK K
    refine norm_ (a' := ?_) ?_ ?_
    rotate_left
    ·
     show Act.put _ (some 28) _ = _
     simp only [Act.put, List.setIfInBounds_toArray, List.set_cons_zero, List.set_cons_succ, i64_w, i32_w]
     rfl
    refine one_ (i := 18) (N := some 29) #[T, T, T, T, T, T, T, T, T, T, T, T, T, T, T, T, T, T, T, F, F, F, F, F, F, F, F, F, F, F, F] rfl rfl (one_of HT_.out (by kernel_rfl)) (by decide) (fun K hK => ?_)
    refine goes_ Try.func18 (by kernel_rfl) rfl #[.agg #[.int .u32 t231, .int .u32 t232, .int .u32 t233, .int .u32 t234, .int .u32 t235, .int .u32 t236, .int .u32 t237, .int .u32 t238], .agg #[.int .u32 t264, .int .u32 t265, .int .u32 t266, .int .u32 t267, .int .u32 t268, .int .u32 t269, .int .u32 t270, .int .u32 t271]] (by rfl) rfl rfl (by (try simp only [List.map_toArray, List.map_cons, List.map_nil]); first | done | rfl | (simp only [List.length_drop, List.length_take]; rfl)) ?_
    with_reducible refine (offertoryref09_Add.calls t231 t232 t233 t234 t235 t236 t237 t238 t264 t265 t266 t267 t268 t269 t270 t271 t272 t273 t274 t275 t276 t277 t278 t279 _ A13.out).mono ?_
    rintro e w51 ⟨rfl, hb⟩
    refine ⟨_, rfl, ?_⟩
    have n0_ := Aside0.mk (blk_below (g := gb229) (o := .cells #[.int .u64 a0_0, .int .u64 a0_1] 25 (0, 0)) (by (with_reducible repeat (first | refine blk_drewN ?_ _ | refine blk_drew ?_ | refine blk_alloc ?_ _)); exact BK229.out) hb)
    have n1_ := Aside0.mk (blk_below (g := gb230) (o := .cells #[.int .u64 a1_0, .int .u64 a1_1] 25 (0, 0)) (by (with_reducible repeat (first | refine blk_drewN ?_ _ | refine blk_drew ?_ | refine blk_alloc ?_ _)); exact BK230.out) hb)
    have n2_ := Aside0.mk (blk_below (g := gb247) (o := .cells #[.int .u32 t231, .int .u32 t232, .int .u32 t233, .int .u32 t234, .int .u32 t235, .int .u32 t236, .int .u32 t237, .int .u32 t238] 29 (0, 0)) (by (with_reducible repeat (first | refine blk_drewN ?_ _ | refine blk_drew ?_ | refine blk_alloc ?_ _)); exact BK247.out) hb)
    have n3_ := Aside0.mk (blk_below (g := gb248) (o := .cells #[.int .u32 t239, .int .u32 t240, .int .u32 t241, .int .u32 t242, .int .u32 t243, .int .u32 t244, .int .u32 t245, .int .u32 t246] 29 (0, 0)) (by (with_reducible repeat (first | refine blk_drewN ?_ _ | refine blk_drew ?_ | refine blk_alloc ?_ _)); exact BK248.out) hb)
    have n4_ := Aside0.mk (below_step (by repeat (first | (with_reducible first | exact HB.out | apply below_alloc | apply pw_below_drewN | apply below_drew1 | refine below_set ?_ GE229.out | refine below_set ?_ GE230.out | refine below_set ?_ GE247.out | refine below_set ?_ GE248.out) | exact HB.out)) hb)
    clear BK229
    clear BK230
    clear BK247
    clear BK248
    clear HB
    have BK229 := n0_
    have BK230 := n1_
    have BK247 := n2_
    have BK248 := n3_
    have HB := n4_
    clear n0_ n1_ n2_ n3_ n4_
    (try clear hb)
    (try clear hb2)
    (try clear hk)
    (try clear hi)
    refine hK.out _ _ ⟨(blk_cell BK229.out 0).trans rfl, (blk_cell BK229.out 1).trans rfl, (blk_cell BK230.out 0).trans rfl, (blk_cell BK230.out 1).trans rfl, (blk_cell BK247.out 0).trans rfl, (blk_cell BK247.out 1).trans rfl, (blk_cell BK247.out 2).trans rfl, (blk_cell BK247.out 3).trans rfl, (blk_cell BK247.out 4).trans rfl, (blk_cell BK247.out 5).trans rfl, (blk_cell BK247.out 6).trans rfl, (blk_cell BK247.out 7).trans rfl, (blk_cell BK248.out 0).trans rfl, (blk_cell BK248.out 1).trans rfl, (blk_cell BK248.out 2).trans rfl, (blk_cell BK248.out 3).trans rfl, (blk_cell BK248.out 4).trans rfl, (blk_cell BK248.out 5).trans rfl, (blk_cell BK248.out 6).trans rfl, (blk_cell BK248.out 7).trans rfl⟩ (fun hHeld => ?_)
    clear hK K
    refine norm_ (a' := ?_) ?_ ?_
    rotate_left
    ·
     show Act.put _ (some 29) _ = _
     simp only [Act.put, List.setIfInBounds_toArray, List.set_cons_zero, List.set_cons_succ, i64_w, i32_w]
     rfl
    refine one_ (i := 19) (N := some 30) #[T, T, T, T, T, T, T, T, T, T, T, T, T, T, T, T, T, T, T, T, F, F, F, F, F, F, F, F, F, F, F] rfl rfl (one_of HT_.out (by kernel_rfl)) (by decide) (fun K hK => ?_)
    refine goes_ Try.func12 (by kernel_rfl) rfl #[.agg #[.int .u32 t272, .int .u32 t273, .int .u32 t274, .int .u32 t275, .int .u32 t276, .int .u32 t277, .int .u32 t278, .int .u32 t279]] (by rfl) rfl rfl (by (try simp only [List.map_toArray, List.map_cons, List.map_nil]); first | done | rfl | (simp only [List.length_drop, List.length_take]; rfl)) ?_
    with_reducible refine (offertoryref09_Big_Wide.calls t272 t273 t274 t275 t276 t277 t278 t279 t280 t281 _ A14.out).mono ?_
    rintro e w52 ⟨rfl, hb⟩
    refine ⟨_, rfl, ?_⟩
    have n0_ := Aside0.mk (blk_below (g := gb229) (o := .cells #[.int .u64 a0_0, .int .u64 a0_1] 25 (0, 0)) (by (with_reducible repeat (first | refine blk_drewN ?_ _ | refine blk_drew ?_ | refine blk_alloc ?_ _)); exact BK229.out) hb)
    have n1_ := Aside0.mk (blk_below (g := gb230) (o := .cells #[.int .u64 a1_0, .int .u64 a1_1] 25 (0, 0)) (by (with_reducible repeat (first | refine blk_drewN ?_ _ | refine blk_drew ?_ | refine blk_alloc ?_ _)); exact BK230.out) hb)
    have n2_ := Aside0.mk (blk_below (g := gb247) (o := .cells #[.int .u32 t231, .int .u32 t232, .int .u32 t233, .int .u32 t234, .int .u32 t235, .int .u32 t236, .int .u32 t237, .int .u32 t238] 29 (0, 0)) (by (with_reducible repeat (first | refine blk_drewN ?_ _ | refine blk_drew ?_ | refine blk_alloc ?_ _)); exact BK247.out) hb)
    have n3_ := Aside0.mk (blk_below (g := gb248) (o := .cells #[.int .u32 t239, .int .u32 t240, .int .u32 t241, .int .u32 t242, .int .u32 t243, .int .u32 t244, .int .u32 t245, .int .u32 t246] 29 (0, 0)) (by (with_reducible repeat (first | refine blk_drewN ?_ _ | refine blk_drew ?_ | refine blk_alloc ?_ _)); exact BK248.out) hb)
    have n4_ := Aside0.mk (below_step (by repeat (first | (with_reducible first | exact HB.out | apply below_alloc | apply pw_below_drewN | apply below_drew1 | refine below_set ?_ GE229.out | refine below_set ?_ GE230.out | refine below_set ?_ GE247.out | refine below_set ?_ GE248.out) | exact HB.out)) hb)
    clear BK229
    clear BK230
    clear BK247
    clear BK248
    clear HB
    have BK229 := n0_
    have BK230 := n1_
    have BK247 := n2_
    have BK248 := n3_
    have HB := n4_
    clear n0_ n1_ n2_ n3_ n4_
    (try clear hb)
    (try clear hb2)
    (try clear hk)
    (try clear hi)
    refine hK.out _ _ ⟨(blk_cell BK229.out 0).trans rfl, (blk_cell BK229.out 1).trans rfl, (blk_cell BK230.out 0).trans rfl, (blk_cell BK230.out 1).trans rfl, (blk_cell BK247.out 0).trans rfl, (blk_cell BK247.out 1).trans rfl, (blk_cell BK247.out 2).trans rfl, (blk_cell BK247.out 3).trans rfl, (blk_cell BK247.out 4).trans rfl, (blk_cell BK247.out 5).trans rfl, (blk_cell BK247.out 6).trans rfl, (blk_cell BK247.out 7).trans rfl, (blk_cell BK248.out 0).trans rfl, (blk_cell BK248.out 1).trans rfl, (blk_cell BK248.out 2).trans rfl, (blk_cell BK248.out 3).trans rfl, (blk_cell BK248.out 4).trans rfl, (blk_cell BK248.out 5).trans rfl, (blk_cell BK248.out 6).trans rfl, (blk_cell BK248.out 7).trans rfl⟩ (fun hHeld => ?_)
    clear hK K
    refine norm_ (a' := ?_) ?_ ?_
    rotate_left
    ·
     show Act.put _ (some 30) _ = _
     simp only [Act.put, List.setIfInBounds_toArray, List.set_cons_zero, List.set_cons_succ, i64_w, i32_w]
     rfl
    refine pure_ (i := 20) (N := some 31) (v := ?_) (a' := ?_) #[T, T, T, T, T, T, T, T, T, T, T, T, T, T, T, T, T, T, T, T, T, F, F, F, F, F, F, F, F, F, F] rfl rfl (any_of HT_.out (by kernel_rfl)) (fun _ _ _ h => h) (Or.inl ⟨by rfl, ?_⟩) ?_ ?_
    rotate_left
    ·
     intro w'
     (try simp only [add_plain] at s0 s1 s2 s3 s4 s5 s6 s7 s8 s9 s10 s11 s12 s13 s14 s15 s16 s17 s18 s19)
     go_simp
     with_reducible rfl
    rotate_left
    ·
     simp only [Act.put, List.setIfInBounds_toArray, List.set_cons_zero, List.set_cons_succ, i64_w, i32_w]
     rfl
    refine pure_ (i := 21) (N := some 32) (v := ?_) (a' := ?_) #[T, T, T, T, T, T, T, T, T, T, T, T, T, T, T, T, T, T, T, T, T, T, F, F, F, F, F, F, F, F, F] rfl rfl (any_of HT_.out (by kernel_rfl)) (fun _ _ _ h => h) (Or.inl ⟨by rfl, ?_⟩) ?_ ?_
    rotate_left
    ·
     intro w'
     (try simp only [add_plain] at s0 s1 s2 s3 s4 s5 s6 s7 s8 s9 s10 s11 s12 s13 s14 s15 s16 s17 s18 s19)
     go_simp
     with_reducible rfl
    rotate_left
    ·
     simp only [Act.put, List.setIfInBounds_toArray, List.set_cons_zero, List.set_cons_succ, i64_w, i32_w]
     rfl
    refine pure_ (i := 22) (N := some 33) (v := ?_) (a' := ?_) #[T, T, T, T, T, T, T, T, T, T, T, T, T, T, T, T, T, T, T, T, T, T, T, F, F, F, F, F, F, F, F] rfl rfl (any_of HT_.out (by kernel_rfl)) (fun _ _ _ h => h) (Or.inl ⟨by rfl, ?_⟩) ?_ ?_
    rotate_left
    ·
     intro w'
     (try simp only [add_plain] at s0 s1 s2 s3 s4 s5 s6 s7 s8 s9 s10 s11 s12 s13 s14 s15 s16 s17 s18 s19)
     go_simp
     with_reducible rfl
    rotate_left
    ·
     simp only [Act.put, List.setIfInBounds_toArray, List.set_cons_zero, List.set_cons_succ, i64_w, i32_w]
     rfl
    refine take_ (i := 23) (N := some 34) (v := ?_) (a' := ?_) #[T, T, T, T, T, T, T, T, T, T, T, T, T, T, T, T, T, T, T, T, T, T, T, T, F, F, F, F, F, F, F] rfl rfl (take_ofW HT_.out HW_.out (by kernel_rfl)) (fun _ _ _ h => h) (Or.inl ⟨by rfl, ?_⟩) hHeld ?_ ?_
    rotate_left
    ·
     rintro w' ⟨s0, s1, s2, s3, s4, s5, s6, s7, s8, s9, s10, s11, s12, s13, s14, s15, s16, s17, s18, s19⟩
     (try simp only [add_plain] at s0 s1 s2 s3 s4 s5 s6 s7 s8 s9 s10 s11 s12 s13 s14 s15 s16 s17 s18 s19)
     go_simp
     with_reducible rfl
    rotate_left
    ·
     simp only [Act.put, List.setIfInBounds_toArray, List.set_cons_zero, List.set_cons_succ, i64_w, i32_w]
     rfl
    refine take_ (i := 25) (N := some 36) (v := ?_) (a' := ?_) #[T, T, T, T, T, T, T, T, T, T, T, T, T, T, T, T, T, T, T, T, T, T, T, T, F, T, F, F, F, F, F] rfl rfl (take_ofW HT_.out HW_.out (by kernel_rfl)) (fun _ _ _ h => h) (Or.inl ⟨by rfl, ?_⟩) hHeld ?_ ?_
    rotate_left
    ·
     rintro w' ⟨s0, s1, s2, s3, s4, s5, s6, s7, s8, s9, s10, s11, s12, s13, s14, s15, s16, s17, s18, s19⟩
     (try simp only [add_plain] at s0 s1 s2 s3 s4 s5 s6 s7 s8 s9 s10 s11 s12 s13 s14 s15 s16 s17 s18 s19)
     go_simp
     with_reducible rfl
    rotate_left
    ·
     simp only [Act.put, List.setIfInBounds_toArray, List.set_cons_zero, List.set_cons_succ, i64_w, i32_w]
     rfl
    refine one_ (i := 24) (N := some 35) #[T, T, T, T, T, T, T, T, T, T, T, T, T, T, T, T, T, T, T, T, T, T, T, T, T, T, F, F, F, F, F] rfl rfl (one_of HT_.out (by kernel_rfl)) (by decide) (fun K hK => ?_)
    refine goes_ Try.func21 (by kernel_rfl) rfl #[.agg #[.int .u64 a0_0, .int .u64 a0_1]] (by rfl) rfl rfl (by (try simp only [List.map_toArray, List.map_cons, List.map_nil]); first | done | rfl | (simp only [List.length_drop, List.length_take]; rfl)) ?_
    with_reducible refine (wide_Neg.calls a0_0 a0_1 t282 t283 _ A16.out).mono ?_
    rintro e w53 ⟨rfl, hb⟩
    refine ⟨_, rfl, ?_⟩
    have n0_ := Aside0.mk (blk_below (g := gb229) (o := .cells #[.int .u64 a0_0, .int .u64 a0_1] 25 (0, 0)) (by (with_reducible repeat (first | refine blk_drewN ?_ _ | refine blk_drew ?_ | refine blk_alloc ?_ _)); exact BK229.out) hb)
    have n1_ := Aside0.mk (blk_below (g := gb230) (o := .cells #[.int .u64 a1_0, .int .u64 a1_1] 25 (0, 0)) (by (with_reducible repeat (first | refine blk_drewN ?_ _ | refine blk_drew ?_ | refine blk_alloc ?_ _)); exact BK230.out) hb)
    have n2_ := Aside0.mk (blk_below (g := gb247) (o := .cells #[.int .u32 t231, .int .u32 t232, .int .u32 t233, .int .u32 t234, .int .u32 t235, .int .u32 t236, .int .u32 t237, .int .u32 t238] 29 (0, 0)) (by (with_reducible repeat (first | refine blk_drewN ?_ _ | refine blk_drew ?_ | refine blk_alloc ?_ _)); exact BK247.out) hb)
    have n3_ := Aside0.mk (blk_below (g := gb248) (o := .cells #[.int .u32 t239, .int .u32 t240, .int .u32 t241, .int .u32 t242, .int .u32 t243, .int .u32 t244, .int .u32 t245, .int .u32 t246] 29 (0, 0)) (by (with_reducible repeat (first | refine blk_drewN ?_ _ | refine blk_drew ?_ | refine blk_alloc ?_ _)); exact BK248.out) hb)
    have n4_ := Aside0.mk (below_step (by repeat (first | (with_reducible first | exact HB.out | apply below_alloc | apply pw_below_drewN | apply below_drew1 | refine below_set ?_ GE229.out | refine below_set ?_ GE230.out | refine below_set ?_ GE247.out | refine below_set ?_ GE248.out) | exact HB.out)) hb)
    clear BK229
    clear BK230
    clear BK247
    clear BK248
    clear HB
    have BK229 := n0_
    have BK230 := n1_
    have BK247 := n2_
    have BK248 := n3_
    have HB := n4_
    clear n0_ n1_ n2_ n3_ n4_
    (try clear hb)
    (try clear hb2)
    (try clear hk)
    (try clear hi)
    refine hK.out _ _ ⟨(blk_cell BK229.out 0).trans rfl, (blk_cell BK229.out 1).trans rfl, (blk_cell BK230.out 0).trans rfl, (blk_cell BK230.out 1).trans rfl, (blk_cell BK247.out 0).trans rfl, (blk_cell BK247.out 1).trans rfl, (blk_cell BK247.out 2).trans rfl, (blk_cell BK247.out 3).trans rfl, (blk_cell BK247.out 4).trans rfl, (blk_cell BK247.out 5).trans rfl, (blk_cell BK247.out 6).trans rfl, (blk_cell BK247.out 7).trans rfl, (blk_cell BK248.out 0).trans rfl, (blk_cell BK248.out 1).trans rfl, (blk_cell BK248.out 2).trans rfl, (blk_cell BK248.out 3).trans rfl, (blk_cell BK248.out 4).trans rfl, (blk_cell BK248.out 5).trans rfl, (blk_cell BK248.out 6).trans rfl, (blk_cell BK248.out 7).trans rfl⟩ (fun hHeld => ?_)
    clear hK K
    refine norm_ (a' := ?_) ?_ ?_
    rotate_left
    ·
     show Act.put _ (some 35) _ = _
     simp only [Act.put, List.setIfInBounds_toArray, List.set_cons_zero, List.set_cons_succ, i64_w, i32_w]
     rfl
    refine one_ (i := 26) (N := some 37) #[T, T, T, T, T, T, T, T, T, T, T, T, T, T, T, T, T, T, T, T, T, T, T, T, T, T, T, F, F, F, F] rfl rfl (one_of HT_.out (by kernel_rfl)) (by decide) (fun K hK => ?_)
    refine goes_ Try.func20 (by kernel_rfl) rfl #[.agg #[.int .u32 t231, .int .u32 t232, .int .u32 t233, .int .u32 t234, .int .u32 t235, .int .u32 t236, .int .u32 t237, .int .u32 t238]] (by rfl) rfl rfl (by (try simp only [List.map_toArray, List.map_cons, List.map_nil]); first | done | rfl | (simp only [List.length_drop, List.length_take]; rfl)) ?_
    with_reducible refine (offertoryref09_Neg.calls t231 t232 t233 t234 t235 t236 t237 t238 t284 t285 t286 t287 t288 t289 t290 t291 _ A17.out).mono ?_
    rintro e w54 ⟨rfl, hb⟩
    refine ⟨_, rfl, ?_⟩
    have n0_ := Aside0.mk (blk_below (g := gb229) (o := .cells #[.int .u64 a0_0, .int .u64 a0_1] 25 (0, 0)) (by (with_reducible repeat (first | refine blk_drewN ?_ _ | refine blk_drew ?_ | refine blk_alloc ?_ _)); exact BK229.out) hb)
    have n1_ := Aside0.mk (blk_below (g := gb230) (o := .cells #[.int .u64 a1_0, .int .u64 a1_1] 25 (0, 0)) (by (with_reducible repeat (first | refine blk_drewN ?_ _ | refine blk_drew ?_ | refine blk_alloc ?_ _)); exact BK230.out) hb)
    have n2_ := Aside0.mk (blk_below (g := gb247) (o := .cells #[.int .u32 t231, .int .u32 t232, .int .u32 t233, .int .u32 t234, .int .u32 t235, .int .u32 t236, .int .u32 t237, .int .u32 t238] 29 (0, 0)) (by (with_reducible repeat (first | refine blk_drewN ?_ _ | refine blk_drew ?_ | refine blk_alloc ?_ _)); exact BK247.out) hb)
    have n3_ := Aside0.mk (blk_below (g := gb248) (o := .cells #[.int .u32 t239, .int .u32 t240, .int .u32 t241, .int .u32 t242, .int .u32 t243, .int .u32 t244, .int .u32 t245, .int .u32 t246] 29 (0, 0)) (by (with_reducible repeat (first | refine blk_drewN ?_ _ | refine blk_drew ?_ | refine blk_alloc ?_ _)); exact BK248.out) hb)
    have n4_ := Aside0.mk (below_step (by repeat (first | (with_reducible first | exact HB.out | apply below_alloc | apply pw_below_drewN | apply below_drew1 | refine below_set ?_ GE229.out | refine below_set ?_ GE230.out | refine below_set ?_ GE247.out | refine below_set ?_ GE248.out) | exact HB.out)) hb)
    clear BK229
    clear BK230
    clear BK247
    clear BK248
    clear HB
    have BK229 := n0_
    have BK230 := n1_
    have BK247 := n2_
    have BK248 := n3_
    have HB := n4_
    clear n0_ n1_ n2_ n3_ n4_
    (try clear hb)
    (try clear hb2)
    (try clear hk)
    (try clear hi)
    refine hK.out _ _ ⟨(blk_cell BK229.out 0).trans rfl, (blk_cell BK229.out 1).trans rfl, (blk_cell BK230.out 0).trans rfl, (blk_cell BK230.out 1).trans rfl, (blk_cell BK247.out 0).trans rfl, (blk_cell BK247.out 1).trans rfl, (blk_cell BK247.out 2).trans rfl, (blk_cell BK247.out 3).trans rfl, (blk_cell BK247.out 4).trans rfl, (blk_cell BK247.out 5).trans rfl, (blk_cell BK247.out 6).trans rfl, (blk_cell BK247.out 7).trans rfl, (blk_cell BK248.out 0).trans rfl, (blk_cell BK248.out 1).trans rfl, (blk_cell BK248.out 2).trans rfl, (blk_cell BK248.out 3).trans rfl, (blk_cell BK248.out 4).trans rfl, (blk_cell BK248.out 5).trans rfl, (blk_cell BK248.out 6).trans rfl, (blk_cell BK248.out 7).trans rfl⟩ (fun hHeld => ?_)
    clear hK K
    refine norm_ (a' := ?_) ?_ ?_
    rotate_left
    ·
     show Act.put _ (some 37) _ = _
     simp only [Act.put, List.setIfInBounds_toArray, List.set_cons_zero, List.set_cons_succ, i64_w, i32_w]
     rfl
    refine one_ (i := 27) (N := some 38) #[T, T, T, T, T, T, T, T, T, T, T, T, T, T, T, T, T, T, T, T, T, T, T, T, T, T, T, T, F, F, F] rfl rfl (one_of HT_.out (by kernel_rfl)) (by decide) (fun K hK => ?_)
    refine goes_ Try.func12 (by kernel_rfl) rfl #[.agg #[.int .u32 t284, .int .u32 t285, .int .u32 t286, .int .u32 t287, .int .u32 t288, .int .u32 t289, .int .u32 t290, .int .u32 t291]] (by rfl) rfl rfl (by (try simp only [List.map_toArray, List.map_cons, List.map_nil]); first | done | rfl | (simp only [List.length_drop, List.length_take]; rfl)) ?_
    with_reducible refine (offertoryref09_Big_Wide.calls t284 t285 t286 t287 t288 t289 t290 t291 t292 t293 _ A18.out).mono ?_
    rintro e w55 ⟨rfl, hb⟩
    refine ⟨_, rfl, ?_⟩
    have n0_ := Aside0.mk (blk_below (g := gb229) (o := .cells #[.int .u64 a0_0, .int .u64 a0_1] 25 (0, 0)) (by (with_reducible repeat (first | refine blk_drewN ?_ _ | refine blk_drew ?_ | refine blk_alloc ?_ _)); exact BK229.out) hb)
    have n1_ := Aside0.mk (blk_below (g := gb230) (o := .cells #[.int .u64 a1_0, .int .u64 a1_1] 25 (0, 0)) (by (with_reducible repeat (first | refine blk_drewN ?_ _ | refine blk_drew ?_ | refine blk_alloc ?_ _)); exact BK230.out) hb)
    have n2_ := Aside0.mk (blk_below (g := gb247) (o := .cells #[.int .u32 t231, .int .u32 t232, .int .u32 t233, .int .u32 t234, .int .u32 t235, .int .u32 t236, .int .u32 t237, .int .u32 t238] 29 (0, 0)) (by (with_reducible repeat (first | refine blk_drewN ?_ _ | refine blk_drew ?_ | refine blk_alloc ?_ _)); exact BK247.out) hb)
    have n3_ := Aside0.mk (blk_below (g := gb248) (o := .cells #[.int .u32 t239, .int .u32 t240, .int .u32 t241, .int .u32 t242, .int .u32 t243, .int .u32 t244, .int .u32 t245, .int .u32 t246] 29 (0, 0)) (by (with_reducible repeat (first | refine blk_drewN ?_ _ | refine blk_drew ?_ | refine blk_alloc ?_ _)); exact BK248.out) hb)
    have n4_ := Aside0.mk (below_step (by repeat (first | (with_reducible first | exact HB.out | apply below_alloc | apply pw_below_drewN | apply below_drew1 | refine below_set ?_ GE229.out | refine below_set ?_ GE230.out | refine below_set ?_ GE247.out | refine below_set ?_ GE248.out) | exact HB.out)) hb)
    clear BK229
    clear BK230
    clear BK247
    clear BK248
    clear HB
    have BK229 := n0_
    have BK230 := n1_
    have BK247 := n2_
    have BK248 := n3_
    have HB := n4_
    clear n0_ n1_ n2_ n3_ n4_
    (try clear hb)
    (try clear hb2)
    (try clear hk)
    (try clear hi)
    refine hK.out _ _ ⟨(blk_cell BK229.out 0).trans rfl, (blk_cell BK229.out 1).trans rfl, (blk_cell BK230.out 0).trans rfl, (blk_cell BK230.out 1).trans rfl, (blk_cell BK247.out 0).trans rfl, (blk_cell BK247.out 1).trans rfl, (blk_cell BK247.out 2).trans rfl, (blk_cell BK247.out 3).trans rfl, (blk_cell BK247.out 4).trans rfl, (blk_cell BK247.out 5).trans rfl, (blk_cell BK247.out 6).trans rfl, (blk_cell BK247.out 7).trans rfl, (blk_cell BK248.out 0).trans rfl, (blk_cell BK248.out 1).trans rfl, (blk_cell BK248.out 2).trans rfl, (blk_cell BK248.out 3).trans rfl, (blk_cell BK248.out 4).trans rfl, (blk_cell BK248.out 5).trans rfl, (blk_cell BK248.out 6).trans rfl, (blk_cell BK248.out 7).trans rfl⟩ (fun hHeld => ?_)
    clear hK K
    refine norm_ (a' := ?_) ?_ ?_
    rotate_left
    ·
     show Act.put _ (some 38) _ = _
     simp only [Act.put, List.setIfInBounds_toArray, List.set_cons_zero, List.set_cons_succ, i64_w, i32_w]
     rfl
    refine pure_ (i := 28) (N := some 39) (v := ?_) (a' := ?_) #[T, T, T, T, T, T, T, T, T, T, T, T, T, T, T, T, T, T, T, T, T, T, T, T, T, T, T, T, T, F, F] rfl rfl (any_of HT_.out (by kernel_rfl)) (fun _ _ _ h => h) (Or.inl ⟨by rfl, ?_⟩) ?_ ?_
    rotate_left
    ·
     intro w'
     (try simp only [add_plain] at s0 s1 s2 s3 s4 s5 s6 s7 s8 s9 s10 s11 s12 s13 s14 s15 s16 s17 s18 s19)
     go_simp
     with_reducible rfl
    rotate_left
    ·
     simp only [Act.put, List.setIfInBounds_toArray, List.set_cons_zero, List.set_cons_succ, i64_w, i32_w]
     rfl
    refine pure_ (i := 29) (N := some 40) (v := ?_) (a' := ?_) #[T, T, T, T, T, T, T, T, T, T, T, T, T, T, T, T, T, T, T, T, T, T, T, T, T, T, T, T, T, T, F] rfl rfl (any_of HT_.out (by kernel_rfl)) (fun _ _ _ h => h) (Or.inl ⟨by rfl, ?_⟩) ?_ ?_
    rotate_left
    ·
     intro w'
     (try simp only [add_plain] at s0 s1 s2 s3 s4 s5 s6 s7 s8 s9 s10 s11 s12 s13 s14 s15 s16 s17 s18 s19)
     go_simp
     with_reducible rfl
    rotate_left
    ·
     simp only [Act.put, List.setIfInBounds_toArray, List.set_cons_zero, List.set_cons_succ, i64_w, i32_w]
     rfl
    refine pure_ (i := 30) (N := some 4) (v := ?_) (a' := ?_) #[T, T, T, T, T, T, T, T, T, T, T, T, T, T, T, T, T, T, T, T, T, T, T, T, T, T, T, T, T, T, T] rfl rfl (any_of HT_.out (by kernel_rfl)) (fun _ _ _ h => h) (Or.inl ⟨by rfl, ?_⟩) ?_ ?_
    rotate_left
    ·
     intro w'
     (try simp only [add_plain] at s0 s1 s2 s3 s4 s5 s6 s7 s8 s9 s10 s11 s12 s13 s14 s15 s16 s17 s18 s19)
     go_simp
     with_reducible rfl
    rotate_left
    ·
     simp only [Act.put, List.setIfInBounds_toArray, List.set_cons_zero, List.set_cons_succ, i64_w, i32_w]
     rfl
    refine done_ (done_of HT_.out (by kernel_rfl)) ?_
    try go_wp2
    go_ret
    exact ⟨by first | rfl | (simp [errW_none, errW_some] <;> rfl) | (simp [*, errW_none, errW_some] <;> rfl), by repeat (first | (with_reducible first | exact HB.out | apply below_alloc | apply pw_below_drewN | apply below_drew1 | refine below_set ?_ GE229.out | refine below_set ?_ GE230.out | refine below_set ?_ GE247.out | refine below_set ?_ GE248.out) | exact HB.out)⟩
   ·
    rw [if_neg c15] at H
    exact absurd H (by simp)
  ·
   rw [if_neg c10] at H
   exact absurd H (by simp)
 ·
  replace c6 := Bool.eq_false_iff.mpr c6
  subst c6
  have H1 : (none) = some r := by rw [if_neg (show ¬ (false = true) by decide)] at H; exact H
  clear H
  have H := H1
  clear H1
  exact absurd H (by simp)

end Go.Proofs.Ytaldennkcafceaa.PAll
