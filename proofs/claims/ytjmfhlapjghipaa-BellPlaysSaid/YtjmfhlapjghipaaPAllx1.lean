/- The Go functions that the laws reach, as Lean functions, and that each call comes to what its function says. Written by a program of this session (a turned copy of the kit's print). No condition beyond those that each theorem states. -/
import Derived.Test.YtjmfhlapjghipaaPAllx0
namespace Go.Proofs.Ytjmfhlapjghipaa.PAll
open Go.RowKit Go.Proofs.YtjmfhlapjghipaaW.PrintWords Go.Proofs.YtjmfhlapjghipaaW.PrintLast Go.Proofs.YtjmfhlapjghipaaW.PrintMore
attribute [local go_sem] max2_int min2_int max_two min_two max_three min_three max_four min_four   -- for this text's walks alone
set_option linter.unusedVariables false
set_option linter.unusedSimpArgs false

/-! ### cmp_Or_int: function 38 -/
def cmp_Or_int.l0 : Nat → Int → List Int → Int → Int → Option (Int)
  | 0, _, _, _, _ => none
  | k + 1, x3, x6, x7, x8 => if x8 < x7 then (if 0 ≤ x8 then (if x8 < (x6.length : Int) then (if (rd x6 x8) = x3 then (cmp_Or_int.l0 k x3 x6 x7 (wrap64 (x8 + 1))) else (some (rd x6 x8))) else (none)) else (none)) else (some x3)
def cmp_Or_int.f (k : Nat) (l0 : List Int) : Option (Int) := cmp_Or_int.l0 k 0 l0 (l0.length : Int) 0
theorem cmp_Or_int.mono_l : ∀ k, (∀ y0 y1 y2 y3, LeO (cmp_Or_int.l0 k y0 y1 y2 y3) (cmp_Or_int.l0 (k + 1) y0 y1 y2 y3))
  | 0 => fun _ _ _ _ r h => by simp [cmp_Or_int.l0] at h
  | k + 1 => by
    have ih0 := cmp_Or_int.mono_l k
    · intro y0 y1 y2 y3
      unfold cmp_Or_int.l0
      repeat' first
      | (with_reducible exact ih0 _ _ _ _)
      | (with_reducible exact LeO.refl _)
      | (with_reducible exact LeO.none _)
      | (with_reducible refine LeO.ite ?_ ?_)
      | (with_reducible refine LeO.bind ?_ (fun _ => ?_))
      | exact ih0 _ _ _ _
      | exact LeO.none _
      | refine LeO.ite ?_ ?_
      | refine LeO.bind ?_ (fun _ => ?_)
theorem cmp_Or_int.mono : ∀ a0 k, LeO (cmp_Or_int.f k a0) (cmp_Or_int.f (k + 1) a0) := by
  intro a0 k
  have ih0 := cmp_Or_int.mono_l k
  unfold cmp_Or_int.f
  repeat' first
      | (with_reducible exact ih0 _ _ _ _)
      | (with_reducible exact LeO.refl _)
      | (with_reducible exact LeO.none _)
      | (with_reducible refine LeO.ite ?_ ?_)
      | (with_reducible refine LeO.bind ?_ (fun _ => ?_))
      | exact ih0 _ _ _ _
      | exact LeO.none _
      | refine LeO.ite ?_ ?_
      | refine LeO.bind ?_ (fun _ => ?_)
set_option maxHeartbeats 8000000 in
set_option maxRecDepth 100000 in
theorem cmp_Or_int.calls (k : Nat) (A0 : Option Addr) (c0 : Nat) (l0 : List Int) (r : Int) (w : World) (hr0 : Kd.C (Kd.int .i64) w A0 l0.length l0) (hc0 : l0.length ≤ c0) (h : cmp_Or_int.f k l0 = some r) :
    Calls Try.prog 38 #[.slice A0 l0.length c0] w fun e w' => e = .returned (.int .i64 r) ∧ Drawn0 w w' := by
  have HR0 := Aside0.mk hr0
  have HC0 := Aside0.mk hc0
  clear hr0 hc0
  have H : (cmp_Or_int.l0 k 0 l0 (l0.length : Int) 0) = some r := h
  clear h
  have H' := Aside0.mk H
  clear H
  go_enter Try.func38, Try.ntmps38
  go_wp2
  go_loopg [8] k (fun kq v8 w' => ∃ (x8_1 : Int), v8 = .int .i64 x8_1 ∧ Aside0 (cmp_Or_int.l0 kq 0 l0 (l0.length : Int) x8_1 = some r) ∧ Aside0 (kq ≤ k) ∧ Drawn0 w w')
  case atStart => exact ⟨(0), (by first | rfl | (simp; done) | (simp [*]; done)), H', ⟨Nat.le_refl _⟩, by repeat (first | exact Drawn0.refl _ | apply Drawn0.step)⟩
  case round =>
    clear H'
    obtain ⟨x8_1, rfl, HA, HK1, ⟨m1, rfl⟩⟩ := hrel
    cases gk with
    | zero => exact absurd HA.out (by simp [cmp_Or_int.l0])
    | succ k1 =>
      have H := HA.out
      clear HA
      simp only [cmp_Or_int.l0] at H
      by_cases c2 : x8_1 < (l0.length : Int)
      · rw [if_pos c2] at H
        have c2b0 : decide (x8_1 < (l0.length : Int)) = true := decide_eq_true c2
        clear c2
        by_cases c3 : 0 ≤ x8_1
        · rw [if_pos c3] at H
          have c3b0 : decide (0 ≤ x8_1) = true := decide_eq_true c3
          clear c3
          by_cases c4 : x8_1 < (l0.length : Int)
          · rw [if_pos c4] at H
            have c4b0 : decide (x8_1 < (l0.length : Int)) = true := decide_eq_true c4
            clear c4
            by_cases c5 : (rd l0 x8_1) = 0
            · rw [if_pos c5] at H
              have c5b0 : ((rd l0 x8_1) == 0) = true := beq_iff_eq.mpr c5
              have c5b1 : ((rd l0 x8_1) != 0) = false := bne_eq_false_iff_eq.mpr c5
              clear c5
              have H' := Aside0.mk H
              clear H
              have p101 : 0 ≤ (x8_1 : Int) := of_decide_eq_true (by first | (with_reducible assumption) | assumption)
              have q101 : x8_1 < (l0.length : Int) := of_decide_eq_true (by first | (with_reducible assumption) | assumption)
              obtain ⟨ad101, e101, hx101_0⟩ := Kd.at_int HR0.out x8_1 p101 q101
              cases e101
              replace p101 := eq_true p101
              replace q101 := eq_true q101
              go_wp2
              go_roundg k1
              case measure => have := HK1.out; omega
              case rel => exact ⟨(wrap64 (x8_1 + 1)), (by first | rfl | (simp; done) | (simp [*]; done)), H', ⟨by have := HK1.out; omega⟩, by repeat (first | exact Drawn0.refl _ | apply Drawn0.step)⟩
            · rw [if_neg c5] at H
              have c5b0 : ((rd l0 x8_1) == 0) = false := beq_eq_false_iff_ne.mpr c5
              have c5b1 : ((rd l0 x8_1) != 0) = true := bne_iff_ne.mpr c5
              obtain rfl := Option.some.inj H
              have p101 : 0 ≤ (x8_1 : Int) := of_decide_eq_true (by first | (with_reducible assumption) | assumption)
              have q101 : x8_1 < (l0.length : Int) := of_decide_eq_true (by first | (with_reducible assumption) | assumption)
              obtain ⟨ad101, e101, hx101_0⟩ := Kd.at_int HR0.out x8_1 p101 q101
              cases e101
              replace p101 := eq_true p101
              replace q101 := eq_true q101
              go_wp2
              go_ret
              exact ⟨by first | rfl | (simp; done) | (simp [*]; done), by repeat (first | exact Drawn0.refl _ | apply Drawn0.step)⟩
          · rw [if_neg c4] at H
            exact absurd H (by simp)
        · rw [if_neg c3] at H
          exact absurd H (by simp)
      · rw [if_neg c2] at H
        have c2b0 : decide (x8_1 < (l0.length : Int)) = false := decide_eq_false c2
        clear c2
        obtain rfl := Option.some.inj H
        go_wp2
        go_ret
        exact ⟨by first | rfl | (simp; done) | (simp [*]; done), by repeat (first | exact Drawn0.refl _ | apply Drawn0.step)⟩

/-! ### cmp_isNaN_int: function 40 -/
def cmp_isNaN_int.f (a0 : Int) : Option (Bool) := some (a0 != a0)
set_option maxHeartbeats 8000000 in
set_option maxRecDepth 100000 in
theorem cmp_isNaN_int.calls (a0 : Int) (r : Bool) (w : World) (h : cmp_isNaN_int.f a0 = some r) :
    Calls Try.prog 40 #[.int .i64 a0] w fun e w' => e = .returned (.bool r) ∧ Drawn0 w w' := by
  have H : (some (a0 != a0)) = some r := h
  clear h
  obtain rfl := Option.some.inj H
  go_enter Try.func40, Try.ntmps40
  go_wp2
  go_ret
  exact ⟨by first | rfl | (simp; done) | (simp [*]; done), by repeat (first | exact Drawn0.refl _ | apply Drawn0.step)⟩

/-! ### cmp_Compare_int: function 39 -/
def cmp_Compare_int.f (a0 : Int) (a1 : Int) : Option (Int) := (cmp_isNaN_int.f a0).bind fun t102 => ((cmp_isNaN_int.f a1).bind fun t103 => (if t102 = true then (if t103 = true then (some 0) else (some (-1))) else (if t103 = true then (some 1) else (if a0 < a1 then (some (-1)) else (if a0 > a1 then (some 1) else (some 0))))))
set_option maxHeartbeats 8000000 in
set_option maxRecDepth 100000 in
theorem cmp_Compare_int.calls (a0 : Int) (a1 : Int) (r : Int) (w : World) (h : cmp_Compare_int.f a0 a1 = some r) :
    Calls Try.prog 39 #[.int .i64 a0, .int .i64 a1] w fun e w' => e = .returned (.int .i64 r) ∧ Drawn0 w w' := by
  have H : ((cmp_isNaN_int.f a0).bind fun t102 => ((cmp_isNaN_int.f a1).bind fun t103 => (if t102 = true then (if t103 = true then (some 0) else (some (-1))) else (if t103 = true then (some 1) else (if a0 < a1 then (some (-1)) else (if a0 > a1 then (some 1) else (some 0))))))) = some r := h
  clear h
  replace H := Option.bind_eq_some_iff.mp H
  obtain ⟨t102, A30, H⟩ := H
  replace H : ((cmp_isNaN_int.f a1).bind fun t103 => (if t102 = true then (if t103 = true then (some 0) else (some (-1))) else (if t103 = true then (some 1) else (if a0 < a1 then (some (-1)) else (if a0 > a1 then (some 1) else (some 0)))))) = some r := H
  have A3 := Aside0.mk A30
  clear A30
  replace H := Option.bind_eq_some_iff.mp H
  obtain ⟨t103, A40, H⟩ := H
  replace H : (if t102 = true then (if t103 = true then (some 0) else (some (-1))) else (if t103 = true then (some 1) else (if a0 < a1 then (some (-1)) else (if a0 > a1 then (some 1) else (some 0))))) = some r := H
  have A4 := Aside0.mk A40
  clear A40
  by_cases c5 : t102 = true
  · subst c5
    have H1 : (if t103 = true then (some 0) else (some (-1))) = some r := by rw [if_pos rfl] at H; exact H
    clear H
    have H := H1
    clear H1
    by_cases c6 : t103 = true
    · subst c6
      have H1 : (some 0) = some r := by rw [if_pos rfl] at H; exact H
      clear H
      have H := H1
      clear H1
      obtain rfl := Option.some.inj H
      go_enter Try.func39, Try.ntmps39
      go_wp2_with (first | ((with_reducible refine gate_callee (f := 40) rfl ?_); refine goesL_ (some 8) rfl rfl Try.func40 (by kernel_rfl) rfl #[.int .i64 a0] rfl (by (try simp only [List.map_toArray, List.map_cons, List.map_nil]); first | done | rfl | (simp only [List.length_drop, List.length_take]; rfl)) ?_; (with_reducible refine (cmp_isNaN_int.calls a0 true _ A3.out).mono ?_); rintro e w' ⟨rfl, ⟨nd, rfl⟩⟩; refine ⟨_, rfl, ?_⟩) | ((with_reducible refine gate_callee (f := 40) rfl ?_); refine goesL_ (some 10) rfl rfl Try.func40 (by kernel_rfl) rfl #[.int .i64 a1] rfl (by (try simp only [List.map_toArray, List.map_cons, List.map_nil]); first | done | rfl | (simp only [List.length_drop, List.length_take]; rfl)) ?_; (with_reducible refine (cmp_isNaN_int.calls a1 true _ A4.out).mono ?_); rintro e w' ⟨rfl, ⟨nd, rfl⟩⟩; refine ⟨_, rfl, ?_⟩))
      go_ret
      exact ⟨by first | rfl | (simp; done) | (simp [*]; done), by repeat (first | exact Drawn0.refl _ | apply Drawn0.step)⟩
    · replace c6 := Bool.eq_false_iff.mpr c6
      subst c6
      have H1 : (some (-1)) = some r := by rw [if_neg (show ¬ (false = true) by decide)] at H; exact H
      clear H
      have H := H1
      clear H1
      obtain rfl := Option.some.inj H
      go_enter Try.func39, Try.ntmps39
      go_wp2_with (first | ((with_reducible refine gate_callee (f := 40) rfl ?_); refine goesL_ (some 8) rfl rfl Try.func40 (by kernel_rfl) rfl #[.int .i64 a0] rfl (by (try simp only [List.map_toArray, List.map_cons, List.map_nil]); first | done | rfl | (simp only [List.length_drop, List.length_take]; rfl)) ?_; (with_reducible refine (cmp_isNaN_int.calls a0 true _ A3.out).mono ?_); rintro e w' ⟨rfl, ⟨nd, rfl⟩⟩; refine ⟨_, rfl, ?_⟩) | ((with_reducible refine gate_callee (f := 40) rfl ?_); refine goesL_ (some 10) rfl rfl Try.func40 (by kernel_rfl) rfl #[.int .i64 a1] rfl (by (try simp only [List.map_toArray, List.map_cons, List.map_nil]); first | done | rfl | (simp only [List.length_drop, List.length_take]; rfl)) ?_; (with_reducible refine (cmp_isNaN_int.calls a1 false _ A4.out).mono ?_); rintro e w' ⟨rfl, ⟨nd, rfl⟩⟩; refine ⟨_, rfl, ?_⟩))
      go_ret
      exact ⟨by first | rfl | (simp; done) | (simp [*]; done), by repeat (first | exact Drawn0.refl _ | apply Drawn0.step)⟩
  · replace c5 := Bool.eq_false_iff.mpr c5
    subst c5
    have H1 : (if t103 = true then (some 1) else (if a0 < a1 then (some (-1)) else (if a0 > a1 then (some 1) else (some 0)))) = some r := by rw [if_neg (show ¬ (false = true) by decide)] at H; exact H
    clear H
    have H := H1
    clear H1
    by_cases c7 : t103 = true
    · subst c7
      have H1 : (some 1) = some r := by rw [if_pos rfl] at H; exact H
      clear H
      have H := H1
      clear H1
      obtain rfl := Option.some.inj H
      go_enter Try.func39, Try.ntmps39
      go_wp2_with (first | ((with_reducible refine gate_callee (f := 40) rfl ?_); refine goesL_ (some 8) rfl rfl Try.func40 (by kernel_rfl) rfl #[.int .i64 a0] rfl (by (try simp only [List.map_toArray, List.map_cons, List.map_nil]); first | done | rfl | (simp only [List.length_drop, List.length_take]; rfl)) ?_; (with_reducible refine (cmp_isNaN_int.calls a0 false _ A3.out).mono ?_); rintro e w' ⟨rfl, ⟨nd, rfl⟩⟩; refine ⟨_, rfl, ?_⟩) | ((with_reducible refine gate_callee (f := 40) rfl ?_); refine goesL_ (some 10) rfl rfl Try.func40 (by kernel_rfl) rfl #[.int .i64 a1] rfl (by (try simp only [List.map_toArray, List.map_cons, List.map_nil]); first | done | rfl | (simp only [List.length_drop, List.length_take]; rfl)) ?_; (with_reducible refine (cmp_isNaN_int.calls a1 true _ A4.out).mono ?_); rintro e w' ⟨rfl, ⟨nd, rfl⟩⟩; refine ⟨_, rfl, ?_⟩))
      go_ret
      exact ⟨by first | rfl | (simp; done) | (simp [*]; done), by repeat (first | exact Drawn0.refl _ | apply Drawn0.step)⟩
    · replace c7 := Bool.eq_false_iff.mpr c7
      subst c7
      have H1 : (if a0 < a1 then (some (-1)) else (if a0 > a1 then (some 1) else (some 0))) = some r := by rw [if_neg (show ¬ (false = true) by decide)] at H; exact H
      clear H
      have H := H1
      clear H1
      by_cases c8 : a0 < a1
      · rw [if_pos c8] at H
        have c8b0 : decide (a0 < a1) = true := decide_eq_true c8
        clear c8
        obtain rfl := Option.some.inj H
        go_enter Try.func39, Try.ntmps39
        go_wp2_with (first | ((with_reducible refine gate_callee (f := 40) rfl ?_); refine goesL_ (some 8) rfl rfl Try.func40 (by kernel_rfl) rfl #[.int .i64 a0] rfl (by (try simp only [List.map_toArray, List.map_cons, List.map_nil]); first | done | rfl | (simp only [List.length_drop, List.length_take]; rfl)) ?_; (with_reducible refine (cmp_isNaN_int.calls a0 false _ A3.out).mono ?_); rintro e w' ⟨rfl, ⟨nd, rfl⟩⟩; refine ⟨_, rfl, ?_⟩) | ((with_reducible refine gate_callee (f := 40) rfl ?_); refine goesL_ (some 10) rfl rfl Try.func40 (by kernel_rfl) rfl #[.int .i64 a1] rfl (by (try simp only [List.map_toArray, List.map_cons, List.map_nil]); first | done | rfl | (simp only [List.length_drop, List.length_take]; rfl)) ?_; (with_reducible refine (cmp_isNaN_int.calls a1 false _ A4.out).mono ?_); rintro e w' ⟨rfl, ⟨nd, rfl⟩⟩; refine ⟨_, rfl, ?_⟩))
        go_ret
        exact ⟨by first | rfl | (simp; done) | (simp [*]; done), by repeat (first | exact Drawn0.refl _ | apply Drawn0.step)⟩
      · rw [if_neg c8] at H
        have c8b0 : decide (a0 < a1) = false := decide_eq_false c8
        clear c8
        by_cases c9 : a0 > a1
        · rw [if_pos c9] at H
          have c9b0 : decide (a1 < a0) = true := decide_eq_true c9
          clear c9
          obtain rfl := Option.some.inj H
          go_enter Try.func39, Try.ntmps39
          go_wp2_with (first | ((with_reducible refine gate_callee (f := 40) rfl ?_); refine goesL_ (some 8) rfl rfl Try.func40 (by kernel_rfl) rfl #[.int .i64 a0] rfl (by (try simp only [List.map_toArray, List.map_cons, List.map_nil]); first | done | rfl | (simp only [List.length_drop, List.length_take]; rfl)) ?_; (with_reducible refine (cmp_isNaN_int.calls a0 false _ A3.out).mono ?_); rintro e w' ⟨rfl, ⟨nd, rfl⟩⟩; refine ⟨_, rfl, ?_⟩) | ((with_reducible refine gate_callee (f := 40) rfl ?_); refine goesL_ (some 10) rfl rfl Try.func40 (by kernel_rfl) rfl #[.int .i64 a1] rfl (by (try simp only [List.map_toArray, List.map_cons, List.map_nil]); first | done | rfl | (simp only [List.length_drop, List.length_take]; rfl)) ?_; (with_reducible refine (cmp_isNaN_int.calls a1 false _ A4.out).mono ?_); rintro e w' ⟨rfl, ⟨nd, rfl⟩⟩; refine ⟨_, rfl, ?_⟩))
          go_ret
          exact ⟨by first | rfl | (simp; done) | (simp [*]; done), by repeat (first | exact Drawn0.refl _ | apply Drawn0.step)⟩
        · rw [if_neg c9] at H
          have c9b0 : decide (a1 < a0) = false := decide_eq_false c9
          clear c9
          obtain rfl := Option.some.inj H
          go_enter Try.func39, Try.ntmps39
          go_wp2_with (first | ((with_reducible refine gate_callee (f := 40) rfl ?_); refine goesL_ (some 8) rfl rfl Try.func40 (by kernel_rfl) rfl #[.int .i64 a0] rfl (by (try simp only [List.map_toArray, List.map_cons, List.map_nil]); first | done | rfl | (simp only [List.length_drop, List.length_take]; rfl)) ?_; (with_reducible refine (cmp_isNaN_int.calls a0 false _ A3.out).mono ?_); rintro e w' ⟨rfl, ⟨nd, rfl⟩⟩; refine ⟨_, rfl, ?_⟩) | ((with_reducible refine gate_callee (f := 40) rfl ?_); refine goesL_ (some 10) rfl rfl Try.func40 (by kernel_rfl) rfl #[.int .i64 a1] rfl (by (try simp only [List.map_toArray, List.map_cons, List.map_nil]); first | done | rfl | (simp only [List.length_drop, List.length_take]; rfl)) ?_; (with_reducible refine (cmp_isNaN_int.calls a1 false _ A4.out).mono ?_); rintro e w' ⟨rfl, ⟨nd, rfl⟩⟩; refine ⟨_, rfl, ?_⟩))
          go_ret
          exact ⟨by first | rfl | (simp; done) | (simp [*]; done), by repeat (first | exact Drawn0.refl _ | apply Drawn0.step)⟩

-- NOT PRINTED: function 7 (bell_New)

-- NOT PRINTED: function 17 (heap_down)

-- NOT PRINTED: function 18 (heap_up)

-- NOT PRINTED: function 14 (heap_Fix)

-- NOT PRINTED: function 15 (heap_Push)

-- NOT PRINTED: function 9 (bell_Bell_Set)

-- NOT PRINTED: function 16 (heap_Remove)

-- NOT PRINTED: function 10 (bell_Bell_Stop)

-- NOT PRINTED: function 13 (bell_Bell_Next)

-- NOT PRINTED: function 12 (bell_Bell_Strike)

-- NOT PRINTED: function 8 (offertorylaw19_awake)

/-! ### offertorylaw19_first: function 11 -/
def offertorylaw19_first.l0 : Nat → List (S30) → Int → Int → Option (Int)
  | 0, _, _, _ => none
  | k + 1, x0, x3, x4 => if x4 < (x0.length : Int) then (if x3 < 0 then (offertorylaw19_first.l0 k x0 x4 (wrap64 (x4 + 1))) else (if 0 ≤ x4 then (if 0 ≤ x3 then (if x3 < (x0.length : Int) then (if ((rd_T30 x0 x4).f1) < ((rd_T30 x0 x3).f1) then (offertorylaw19_first.l0 k x0 x4 (wrap64 (x4 + 1))) else (if ((rd_T30 x0 x4).f1) = ((rd_T30 x0 x3).f1) then (if ((rd_T30 x0 x4).f0) < ((rd_T30 x0 x3).f0) then (offertorylaw19_first.l0 k x0 x4 (wrap64 (x4 + 1))) else (offertorylaw19_first.l0 k x0 x3 (wrap64 (x4 + 1)))) else (offertorylaw19_first.l0 k x0 x3 (wrap64 (x4 + 1))))) else (none)) else (none)) else (none))) else (some x3)
def offertorylaw19_first.f (k : Nat) (l0 : List (S30)) : Option (Int) := offertorylaw19_first.l0 k l0 (-1) 0
theorem offertorylaw19_first.mono_l : ∀ k, (∀ y0 y1 y2, LeO (offertorylaw19_first.l0 k y0 y1 y2) (offertorylaw19_first.l0 (k + 1) y0 y1 y2))
  | 0 => fun _ _ _ r h => by simp [offertorylaw19_first.l0] at h
  | k + 1 => by
    have ih0 := offertorylaw19_first.mono_l k
    · intro y0 y1 y2
      unfold offertorylaw19_first.l0
      repeat' first
      | (with_reducible exact ih0 _ _ _)
      | (with_reducible exact LeO.refl _)
      | (with_reducible exact LeO.none _)
      | (with_reducible refine LeO.ite ?_ ?_)
      | (with_reducible refine LeO.bind ?_ (fun _ => ?_))
      | exact ih0 _ _ _
      | exact LeO.none _
      | refine LeO.ite ?_ ?_
      | refine LeO.bind ?_ (fun _ => ?_)
theorem offertorylaw19_first.mono : ∀ a0 k, LeO (offertorylaw19_first.f k a0) (offertorylaw19_first.f (k + 1) a0) := by
  intro a0 k
  have ih0 := offertorylaw19_first.mono_l k
  unfold offertorylaw19_first.f
  repeat' first
      | (with_reducible exact ih0 _ _ _)
      | (with_reducible exact LeO.refl _)
      | (with_reducible exact LeO.none _)
      | (with_reducible refine LeO.ite ?_ ?_)
      | (with_reducible refine LeO.bind ?_ (fun _ => ?_))
      | exact ih0 _ _ _
      | exact LeO.none _
      | refine LeO.ite ?_ ?_
      | refine LeO.bind ?_ (fun _ => ?_)
set_option maxHeartbeats 8000000 in
set_option maxRecDepth 100000 in
theorem offertorylaw19_first.calls (k : Nat) (A0 : Option Addr) (c0 : Nat) (l0 : List (S30)) (r : Int) (w : World) (hr0 : Kd.C k30 w A0 l0.length l0) (hc0 : l0.length ≤ c0) (h : offertorylaw19_first.f k l0 = some r) :
    Calls Try.prog 11 #[.slice A0 l0.length c0] w fun e w' => e = .returned (.int .i64 r) ∧ Drawn0 w w' := by
  have HR0 := Aside0.mk hr0
  have HC0 := Aside0.mk hc0
  clear hr0 hc0
  have H : (offertorylaw19_first.l0 k l0 (-1) 0) = some r := h
  clear h
  have H' := Aside0.mk H
  clear H
  go_enter Try.func11, Try.ntmps11
  go_wp2
  repeat (go_quiet (fail); try go_wp2)
  go_loopg [3, 4] k (fun kq v3 v4 w' => ∃ (x3_1 : Int) (x4_1 : Int), v3 = .int .i64 x3_1 ∧ v4 = .int .i64 x4_1 ∧ Aside0 (offertorylaw19_first.l0 kq l0 x3_1 x4_1 = some r) ∧ Aside0 (kq ≤ k) ∧ Drawn0 w w')
  case atStart => exact ⟨((-1)), (0), (by first | rfl | (simp; done) | (simp [*]; done)), (by first | rfl | (simp; done) | (simp [*]; done)), H', ⟨Nat.le_refl _⟩, by repeat (first | exact Drawn0.refl _ | apply Drawn0.step)⟩
  case round =>
    clear H'
    try clear c1
    obtain ⟨x3_1, x4_1, rfl, rfl, HA, HK1, ⟨m1, rfl⟩⟩ := hrel
    cases gk with
    | zero => exact absurd HA.out (by simp [offertorylaw19_first.l0])
    | succ k1 =>
      have H := HA.out
      clear HA
      simp only [offertorylaw19_first.l0] at H
      by_cases c2 : x4_1 < (l0.length : Int)
      · rw [if_pos c2] at H
        have c2b0 : decide (x4_1 < (l0.length : Int)) = true := decide_eq_true c2
        clear c2
        by_cases c3 : x3_1 < 0
        · rw [if_pos c3] at H
          have c3b0 : decide (x3_1 < 0) = true := decide_eq_true c3
          clear c3
          have H' := Aside0.mk H
          clear H
          go_wp2
          repeat (go_quiet (fail); try go_wp2)
          go_roundg k1
          case measure => have := HK1.out; omega
          case rel => exact ⟨(x4_1), (wrap64 (x4_1 + 1)), (by first | rfl | (simp; done) | (simp [*]; done)), (by first | rfl | (simp; done) | (simp [*]; done)), H', ⟨by have := HK1.out; omega⟩, by repeat (first | exact Drawn0.refl _ | apply Drawn0.step)⟩
        · rw [if_neg c3] at H
          have c3b0 : decide (x3_1 < 0) = false := decide_eq_false c3
          clear c3
          by_cases c4 : 0 ≤ x4_1
          · rw [if_pos c4] at H
            have c4b0 : decide (0 ≤ x4_1) = true := decide_eq_true c4
            clear c4
            by_cases c5 : 0 ≤ x3_1
            · rw [if_pos c5] at H
              have c5b0 : decide (0 ≤ x3_1) = true := decide_eq_true c5
              clear c5
              by_cases c6 : x3_1 < (l0.length : Int)
              · rw [if_pos c6] at H
                have c6b0 : decide (x3_1 < (l0.length : Int)) = true := decide_eq_true c6
                clear c6
                by_cases c7 : ((rd_T30 l0 x4_1).f1) < ((rd_T30 l0 x3_1).f1)
                · rw [if_pos c7] at H
                  have c7b0 : decide (((rd_T30 l0 x4_1).f1) < ((rd_T30 l0 x3_1).f1)) = true := decide_eq_true c7
                  clear c7
                  have H' := Aside0.mk H
                  clear H
                  have p104 : 0 ≤ (x4_1 : Int) := of_decide_eq_true (by first | (with_reducible assumption) | assumption)
                  have q104 : x4_1 < (l0.length : Int) := of_decide_eq_true (by first | (with_reducible assumption) | assumption)
                  obtain ⟨ad104, e104, hx104_0, hx104_1⟩ := at_T30 HR0.out x4_1 p104 q104
                  cases e104
                  replace p104 := eq_true p104
                  replace q104 := eq_true q104
                  have p105 : 0 ≤ (x3_1 : Int) := of_decide_eq_true (by first | (with_reducible assumption) | assumption)
                  have q105 : x3_1 < (l0.length : Int) := of_decide_eq_true (by first | (with_reducible assumption) | assumption)
                  obtain ⟨ad105, e105, hx105_0, hx105_1⟩ := at_T30 HR0.out x3_1 p105 q105
                  obtain rfl : ad104 = ad105 := (by injection e105)
                  replace p105 := eq_true p105
                  replace q105 := eq_true q105
                  go_wp2
                  repeat (go_quiet (fail); try go_wp2)
                  go_roundg k1
                  case measure => have := HK1.out; omega
                  case rel => exact ⟨(x4_1), (wrap64 (x4_1 + 1)), (by first | rfl | (simp; done) | (simp [*]; done)), (by first | rfl | (simp; done) | (simp [*]; done)), H', ⟨by have := HK1.out; omega⟩, by repeat (first | exact Drawn0.refl _ | apply Drawn0.step)⟩
                · rw [if_neg c7] at H
                  have c7b0 : decide (((rd_T30 l0 x4_1).f1) < ((rd_T30 l0 x3_1).f1)) = false := decide_eq_false c7
                  clear c7
                  by_cases c8 : ((rd_T30 l0 x4_1).f1) = ((rd_T30 l0 x3_1).f1)
                  · rw [if_pos c8] at H
                    have c8b0 : (((rd_T30 l0 x4_1).f1) == ((rd_T30 l0 x3_1).f1)) = true := beq_iff_eq.mpr c8
                    have c8b1 : (((rd_T30 l0 x4_1).f1) != ((rd_T30 l0 x3_1).f1)) = false := bne_eq_false_iff_eq.mpr c8
                    clear c8
                    by_cases c9 : ((rd_T30 l0 x4_1).f0) < ((rd_T30 l0 x3_1).f0)
                    · rw [if_pos c9] at H
                      have c9b0 : decide (((rd_T30 l0 x4_1).f0) < ((rd_T30 l0 x3_1).f0)) = true := decide_eq_true c9
                      clear c9
                      have H' := Aside0.mk H
                      clear H
                      have p104 : 0 ≤ (x4_1 : Int) := of_decide_eq_true (by first | (with_reducible assumption) | assumption)
                      have q104 : x4_1 < (l0.length : Int) := of_decide_eq_true (by first | (with_reducible assumption) | assumption)
                      obtain ⟨ad104, e104, hx104_0, hx104_1⟩ := at_T30 HR0.out x4_1 p104 q104
                      cases e104
                      replace p104 := eq_true p104
                      replace q104 := eq_true q104
                      have p105 : 0 ≤ (x3_1 : Int) := of_decide_eq_true (by first | (with_reducible assumption) | assumption)
                      have q105 : x3_1 < (l0.length : Int) := of_decide_eq_true (by first | (with_reducible assumption) | assumption)
                      obtain ⟨ad105, e105, hx105_0, hx105_1⟩ := at_T30 HR0.out x3_1 p105 q105
                      obtain rfl : ad104 = ad105 := (by injection e105)
                      replace p105 := eq_true p105
                      replace q105 := eq_true q105
                      have p106 : 0 ≤ (x4_1 : Int) := of_decide_eq_true (by first | (with_reducible assumption) | assumption)
                      have q106 : x4_1 < (l0.length : Int) := of_decide_eq_true (by first | (with_reducible assumption) | assumption)
                      obtain ⟨ad106, e106, hx106_0, hx106_1⟩ := at_T30 HR0.out x4_1 p106 q106
                      obtain rfl : ad104 = ad106 := (by injection e106)
                      replace p106 := eq_true p106
                      replace q106 := eq_true q106
                      have p107 : 0 ≤ (x3_1 : Int) := of_decide_eq_true (by first | (with_reducible assumption) | assumption)
                      have q107 : x3_1 < (l0.length : Int) := of_decide_eq_true (by first | (with_reducible assumption) | assumption)
                      obtain ⟨ad107, e107, hx107_0, hx107_1⟩ := at_T30 HR0.out x3_1 p107 q107
                      obtain rfl : ad104 = ad107 := (by injection e107)
                      replace p107 := eq_true p107
                      replace q107 := eq_true q107
                      have p108 : 0 ≤ (x4_1 : Int) := of_decide_eq_true (by first | (with_reducible assumption) | assumption)
                      have q108 : x4_1 < (l0.length : Int) := of_decide_eq_true (by first | (with_reducible assumption) | assumption)
                      obtain ⟨ad108, e108, hx108_0, hx108_1⟩ := at_T30 HR0.out x4_1 p108 q108
                      obtain rfl : ad104 = ad108 := (by injection e108)
                      replace p108 := eq_true p108
                      replace q108 := eq_true q108
                      have p109 : 0 ≤ (x3_1 : Int) := of_decide_eq_true (by first | (with_reducible assumption) | assumption)
                      have q109 : x3_1 < (l0.length : Int) := of_decide_eq_true (by first | (with_reducible assumption) | assumption)
                      obtain ⟨ad109, e109, hx109_0, hx109_1⟩ := at_T30 HR0.out x3_1 p109 q109
                      obtain rfl : ad104 = ad109 := (by injection e109)
                      replace p109 := eq_true p109
                      replace q109 := eq_true q109
                      go_wp2
                      repeat (go_quiet (fail); try go_wp2)
                      go_roundg k1
                      case measure => have := HK1.out; omega
                      case rel => exact ⟨(x4_1), (wrap64 (x4_1 + 1)), (by first | rfl | (simp; done) | (simp [*]; done)), (by first | rfl | (simp; done) | (simp [*]; done)), H', ⟨by have := HK1.out; omega⟩, by repeat (first | exact Drawn0.refl _ | apply Drawn0.step)⟩
                    · rw [if_neg c9] at H
                      have c9b0 : decide (((rd_T30 l0 x4_1).f0) < ((rd_T30 l0 x3_1).f0)) = false := decide_eq_false c9
                      clear c9
                      have H' := Aside0.mk H
                      clear H
                      have p104 : 0 ≤ (x4_1 : Int) := of_decide_eq_true (by first | (with_reducible assumption) | assumption)
                      have q104 : x4_1 < (l0.length : Int) := of_decide_eq_true (by first | (with_reducible assumption) | assumption)
                      obtain ⟨ad104, e104, hx104_0, hx104_1⟩ := at_T30 HR0.out x4_1 p104 q104
                      cases e104
                      replace p104 := eq_true p104
                      replace q104 := eq_true q104
                      have p105 : 0 ≤ (x3_1 : Int) := of_decide_eq_true (by first | (with_reducible assumption) | assumption)
                      have q105 : x3_1 < (l0.length : Int) := of_decide_eq_true (by first | (with_reducible assumption) | assumption)
                      obtain ⟨ad105, e105, hx105_0, hx105_1⟩ := at_T30 HR0.out x3_1 p105 q105
                      obtain rfl : ad104 = ad105 := (by injection e105)
                      replace p105 := eq_true p105
                      replace q105 := eq_true q105
                      have p106 : 0 ≤ (x4_1 : Int) := of_decide_eq_true (by first | (with_reducible assumption) | assumption)
                      have q106 : x4_1 < (l0.length : Int) := of_decide_eq_true (by first | (with_reducible assumption) | assumption)
                      obtain ⟨ad106, e106, hx106_0, hx106_1⟩ := at_T30 HR0.out x4_1 p106 q106
                      obtain rfl : ad104 = ad106 := (by injection e106)
                      replace p106 := eq_true p106
                      replace q106 := eq_true q106
                      have p107 : 0 ≤ (x3_1 : Int) := of_decide_eq_true (by first | (with_reducible assumption) | assumption)
                      have q107 : x3_1 < (l0.length : Int) := of_decide_eq_true (by first | (with_reducible assumption) | assumption)
                      obtain ⟨ad107, e107, hx107_0, hx107_1⟩ := at_T30 HR0.out x3_1 p107 q107
                      obtain rfl : ad104 = ad107 := (by injection e107)
                      replace p107 := eq_true p107
                      replace q107 := eq_true q107
                      have p108 : 0 ≤ (x4_1 : Int) := of_decide_eq_true (by first | (with_reducible assumption) | assumption)
                      have q108 : x4_1 < (l0.length : Int) := of_decide_eq_true (by first | (with_reducible assumption) | assumption)
                      obtain ⟨ad108, e108, hx108_0, hx108_1⟩ := at_T30 HR0.out x4_1 p108 q108
                      obtain rfl : ad104 = ad108 := (by injection e108)
                      replace p108 := eq_true p108
                      replace q108 := eq_true q108
                      have p109 : 0 ≤ (x3_1 : Int) := of_decide_eq_true (by first | (with_reducible assumption) | assumption)
                      have q109 : x3_1 < (l0.length : Int) := of_decide_eq_true (by first | (with_reducible assumption) | assumption)
                      obtain ⟨ad109, e109, hx109_0, hx109_1⟩ := at_T30 HR0.out x3_1 p109 q109
                      obtain rfl : ad104 = ad109 := (by injection e109)
                      replace p109 := eq_true p109
                      replace q109 := eq_true q109
                      go_wp2
                      repeat (go_quiet (fail); try go_wp2)
                      go_roundg k1
                      case measure => have := HK1.out; omega
                      case rel => exact ⟨(x3_1), (wrap64 (x4_1 + 1)), (by first | rfl | (simp; done) | (simp [*]; done)), (by first | rfl | (simp; done) | (simp [*]; done)), H', ⟨by have := HK1.out; omega⟩, by repeat (first | exact Drawn0.refl _ | apply Drawn0.step)⟩
                  · rw [if_neg c8] at H
                    have c8b0 : (((rd_T30 l0 x4_1).f1) == ((rd_T30 l0 x3_1).f1)) = false := beq_eq_false_iff_ne.mpr c8
                    have c8b1 : (((rd_T30 l0 x4_1).f1) != ((rd_T30 l0 x3_1).f1)) = true := bne_iff_ne.mpr c8
                    have H' := Aside0.mk H
                    clear H
                    have p104 : 0 ≤ (x4_1 : Int) := of_decide_eq_true (by first | (with_reducible assumption) | assumption)
                    have q104 : x4_1 < (l0.length : Int) := of_decide_eq_true (by first | (with_reducible assumption) | assumption)
                    obtain ⟨ad104, e104, hx104_0, hx104_1⟩ := at_T30 HR0.out x4_1 p104 q104
                    cases e104
                    replace p104 := eq_true p104
                    replace q104 := eq_true q104
                    have p105 : 0 ≤ (x3_1 : Int) := of_decide_eq_true (by first | (with_reducible assumption) | assumption)
                    have q105 : x3_1 < (l0.length : Int) := of_decide_eq_true (by first | (with_reducible assumption) | assumption)
                    obtain ⟨ad105, e105, hx105_0, hx105_1⟩ := at_T30 HR0.out x3_1 p105 q105
                    obtain rfl : ad104 = ad105 := (by injection e105)
                    replace p105 := eq_true p105
                    replace q105 := eq_true q105
                    have p106 : 0 ≤ (x4_1 : Int) := of_decide_eq_true (by first | (with_reducible assumption) | assumption)
                    have q106 : x4_1 < (l0.length : Int) := of_decide_eq_true (by first | (with_reducible assumption) | assumption)
                    obtain ⟨ad106, e106, hx106_0, hx106_1⟩ := at_T30 HR0.out x4_1 p106 q106
                    obtain rfl : ad104 = ad106 := (by injection e106)
                    replace p106 := eq_true p106
                    replace q106 := eq_true q106
                    have p107 : 0 ≤ (x3_1 : Int) := of_decide_eq_true (by first | (with_reducible assumption) | assumption)
                    have q107 : x3_1 < (l0.length : Int) := of_decide_eq_true (by first | (with_reducible assumption) | assumption)
                    obtain ⟨ad107, e107, hx107_0, hx107_1⟩ := at_T30 HR0.out x3_1 p107 q107
                    obtain rfl : ad104 = ad107 := (by injection e107)
                    replace p107 := eq_true p107
                    replace q107 := eq_true q107
                    go_wp2
                    repeat (go_quiet (fail); try go_wp2)
                    go_roundg k1
                    case measure => have := HK1.out; omega
                    case rel => exact ⟨(x3_1), (wrap64 (x4_1 + 1)), (by first | rfl | (simp; done) | (simp [*]; done)), (by first | rfl | (simp; done) | (simp [*]; done)), H', ⟨by have := HK1.out; omega⟩, by repeat (first | exact Drawn0.refl _ | apply Drawn0.step)⟩
              · rw [if_neg c6] at H
                exact absurd H (by simp)
            · rw [if_neg c5] at H
              exact absurd H (by simp)
          · rw [if_neg c4] at H
            exact absurd H (by simp)
      · rw [if_neg c2] at H
        have c2b0 : decide (x4_1 < (l0.length : Int)) = false := decide_eq_false c2
        clear c2
        obtain rfl := Option.some.inj H
        go_wp2
        repeat (go_quiet (fail); try go_wp2)
        go_ret
        exact ⟨by first | rfl | (simp; done) | (simp [*]; done), by repeat (first | exact Drawn0.refl _ | apply Drawn0.step)⟩

abbrev El := Nat × Int × Int
def lessE (a b : El) : Bool := decide (a.2.1 < b.2.1) || (decide (a.2.1 = b.2.1) && decide (a.2.2 < b.2.2))
def d0 : El := (0, 0, 0)
def swE (l : List El) (i j : Nat) : List El := (l.set i (l.getD j d0)).set j (l.getD i d0)
def upE : Nat → List El → Nat → List El
  | 0, l, _ => l
  | k + 1, l, j => if (j - 1) / 2 = j ∨ lessE (l.getD j d0) (l.getD ((j - 1) / 2) d0) = false then l else upE k (swE l ((j - 1) / 2) j) ((j - 1) / 2)
def kidE (l : List El) (i n : Nat) : Nat := if 2 * i + 2 < n ∧ lessE (l.getD (2 * i + 2) d0) (l.getD (2 * i + 1) d0) = true then 2 * i + 2 else 2 * i + 1
def dnE : Nat → List El → Nat → Nat → List El × Nat
  | 0, l, i, _ => (l, i)
  | k + 1, l, i, n => if n ≤ 2 * i + 1 ∨ lessE (l.getD (kidE l i n) d0) (l.getD i d0) = false then (l, i) else dnE k (swE l i (kidE l i n)) (kidE l i n) n
/-- No later than. -/
def leE (a b : El) : Prop := a.2.1 < b.2.1 ∨ (a.2.1 = b.2.1 ∧ a.2.2 ≤ b.2.2)
theorem leE_refl (a : El) : leE a a := Or.inr ⟨rfl, Int.le_refl _⟩
theorem leE_trans {a b c : El} (h : leE a b) (k : leE b c) : leE a c := by unfold leE at *; omega
theorem leE_iff {a b : El} : leE a b ↔ lessE b a = false := by
  unfold leE lessE
  rw [← Bool.not_eq_true, Bool.or_eq_true, Bool.and_eq_true, decide_eq_true_eq, decide_eq_true_eq, decide_eq_true_eq]
  omega
theorem leE_of {a b : El} (h : lessE a b = true) : leE a b := by
  unfold lessE at h
  rw [Bool.or_eq_true, Bool.and_eq_true, decide_eq_true_eq, decide_eq_true_eq, decide_eq_true_eq] at h
  unfold leE
  omega
theorem swE_len (l : List El) (i j : Nat) : (swE l i j).length = l.length := by simp [swE]
theorem swE_get (l : List El) (i j x : Nat) (hi : i < l.length) (hj : j < l.length) : (swE l i j).getD x d0 = if x = j then l.getD i d0 else if x = i then l.getD j d0 else l.getD x d0 := by
  unfold swE
  by_cases e : x = j
  · subst e
    rw [if_pos rfl]
    simp [List.getD_eq_getElem?_getD, hj]
  · rw [if_neg e]
    by_cases e2 : x = i
    · subst e2
      rw [if_pos rfl]
      simp [List.getD_eq_getElem?_getD, hi, Ne.symm e]
    · rw [if_neg e2]
      simp [List.getD_eq_getElem?_getD, Ne.symm e, Ne.symm e2]
theorem upE_len : ∀ (k : Nat) (l : List El) (j : Nat), (upE k l j).length = l.length
  | 0, _, _ => rfl
  | k + 1, l, j => by
    unfold upE
    split
    · rfl
    · rw [upE_len k, swE_len]
theorem dnE_len : ∀ (k : Nat) (l : List El) (i n : Nat), (dnE k l i n).1.length = l.length
  | 0, _, _, _ => rfl
  | k + 1, l, i, n => by
    unfold dnE
    split
    · rfl
    · rw [dnE_len k, swE_len]
theorem getD_of {l : List El} {i : Nat} (h : i < l.length) : l.getD i d0 = l[i] := by simp [List.getD, h]
theorem count_set (l : List El) (i : Nat) (a x : El) (h : i < l.length) : (l.set i a).count x + (if l.getD i d0 = x then 1 else 0) = l.count x + (if a = x then 1 else 0) := by
  induction l generalizing i with
  | nil => simp at h
  | cons b l ih =>
    cases i with
    | zero =>
      simp only [List.set_cons_zero, List.count_cons, List.getD_cons_zero, beq_iff_eq]
      omega
    | succ i =>
      have := ih i (by simpa using h)
      simp only [List.set_cons_succ, List.count_cons, List.getD_cons_succ]
      omega
theorem swE_count (l : List El) (i j : Nat) (hi : i < l.length) (hj : j < l.length) (x : El) : (swE l i j).count x = l.count x := by
  unfold swE
  have h1 := count_set (l.set i (l.getD j d0)) j (l.getD i d0) x (by simpa using hj)
  have h2 := count_set l i (l.getD j d0) x hi
  have h3 : (l.set i (l.getD j d0)).getD j d0 = l.getD j d0 := by
    by_cases e : i = j
    · subst e; simp [List.getD_eq_getElem?_getD, hi]
    · simp [List.getD_eq_getElem?_getD, e]
  rw [h3] at h1
  omega
theorem swE_perm (l : List El) (i j : Nat) (hi : i < l.length) (hj : j < l.length) : (swE l i j).Perm l := List.perm_iff_count.2 fun x => swE_count l i j hi hj x
theorem upE_perm : ∀ (k : Nat) (l : List El) (j : Nat), j < l.length → (upE k l j).Perm l
  | 0, _, _, _ => List.Perm.refl _
  | k + 1, l, j, h => by
    unfold upE
    split
    · exact List.Perm.refl _
    · exact (upE_perm k _ _ (by rw [swE_len]; omega)).trans (swE_perm l _ _ (by omega) h)
theorem kidE_cases (l : List El) (i n : Nat) (h : 2 * i + 1 < n) : (kidE l i n = 2 * i + 1 ∨ kidE l i n = 2 * i + 2) ∧ kidE l i n < n := by
  unfold kidE
  split <;> omega
theorem dnE_perm : ∀ (k : Nat) (l : List El) (i n : Nat), i < l.length → n ≤ l.length → (dnE k l i n).1.Perm l
  | 0, _, _, _, _, _ => List.Perm.refl _
  | k + 1, l, i, n, hi, hn => by
    unfold dnE
    split
    · exact List.Perm.refl _
    · rename_i h
      have hk := kidE_cases l i n (by omega)
      exact (dnE_perm k _ _ n (by rw [swE_len]; omega) (by rw [swE_len]; omega)).trans (swE_perm l _ _ hi (by omega))
/-- What lies behind the end is left alone. -/
theorem dnE_tail : ∀ (k : Nat) (l : List El) (i n x : Nat), i < n → n ≤ l.length → n ≤ x → (dnE k l i n).1.getD x d0 = l.getD x d0
  | 0, _, _, _, _, _, _, _ => rfl
  | k + 1, l, i, n, x, hi, hn, hx => by
    unfold dnE
    split
    · rfl
    · rename_i h
      have hk := kidE_cases l i n (by omega)
      rw [dnE_tail k _ _ n x hk.2 (by rw [swE_len]; omega) hx, swE_get l _ _ x (by omega) (by omega), if_neg (by omega), if_neg (by omega)]
theorem upE_tail : ∀ (k : Nat) (l : List El) (j n x : Nat), j < n → n ≤ l.length → n ≤ x → (upE k l j).getD x d0 = l.getD x d0
  | 0, _, _, _, _, _, _, _ => rfl
  | k + 1, l, j, n, x, hi, hn, hx => by
    unfold upE
    split
    · rfl
    · rw [upE_tail k _ _ n x (by omega) (by rw [swE_len]; omega) hx, swE_get l _ _ x (by omega) (by omega), if_neg (by omega), if_neg (by omega)]
/-- A heap of the first n. -/
def Hp (l : List El) (n : Nat) : Prop := ∀ j : Nat, 0 < j → j < n → leE (l.getD ((j - 1) / 2) d0) (l.getD j d0)
def UpI (l : List El) (n j0 : Nat) : Prop := (∀ j : Nat, 0 < j → j < n → j ≠ j0 → leE (l.getD ((j - 1) / 2) d0) (l.getD j d0)) ∧ ∀ c : Nat, 0 < c → c < n → (c - 1) / 2 = j0 → 0 < j0 → leE (l.getD ((j0 - 1) / 2) d0) (l.getD c d0)
def DnI (l : List El) (n i0 : Nat) : Prop := (∀ j : Nat, 0 < j → j < n → (j - 1) / 2 ≠ i0 → leE (l.getD ((j - 1) / 2) d0) (l.getD j d0)) ∧ ∀ c : Nat, 0 < c → c < n → (c - 1) / 2 = i0 → 0 < i0 → leE (l.getD ((i0 - 1) / 2) d0) (l.getD c d0)
def MdI (l : List El) (n i0 : Nat) : Prop := (∀ j : Nat, 0 < j → j < n → j ≠ i0 → (j - 1) / 2 ≠ i0 → leE (l.getD ((j - 1) / 2) d0) (l.getD j d0)) ∧ ∀ c : Nat, 0 < c → c < n → (c - 1) / 2 = i0 → 0 < i0 → leE (l.getD ((i0 - 1) / 2) d0) (l.getD c d0)
theorem up_ok : ∀ (k : Nat) (l : List El) (j n : Nat), j ≤ k → j < n → n ≤ l.length → UpI l n j → Hp (upE k l j) n
  | 0, l, j, n, hk, hj, hn, h => fun x h0 hx => h.1 x h0 hx (by omega)
  | k + 1, l, j, n, hk, hj, hn, h => by
    unfold upE
    split
    · rename_i c
      intro x h0 hx
      by_cases e : x = j
      · subst e
        rcases c with c | c
        · omega
        · exact leE_iff.2 c
      · exact h.1 x h0 hx e
    · rename_i c
      have c1 : ¬ (j - 1) / 2 = j := fun e => c (Or.inl e)
      have c2 : lessE (l.getD j d0) (l.getD ((j - 1) / 2) d0) = true := by
        cases e : lessE (l.getD j d0) (l.getD ((j - 1) / 2) d0)
        · exact absurd (Or.inr e) c
        · rfl
      have c3 := leE_of c2
      refine up_ok k _ _ n (by omega) (by omega) (by rw [swE_len]; omega) ⟨fun x h0 hx hne => ?_, fun x h0 hx hp hi => ?_⟩
      · rw [swE_get l _ _ _ (by omega) (by omega), swE_get l _ _ _ (by omega) (by omega)]
        by_cases e : x = j
        · subst e
          rw [if_neg (by omega), if_pos rfl, if_pos rfl]
          exact c3
        · rw [if_neg e, if_neg hne]
          by_cases e2 : (x - 1) / 2 = j
          · rw [if_pos e2]
            exact h.2 x h0 hx e2 (by omega)
          · rw [if_neg e2]
            by_cases e3 : (x - 1) / 2 = (j - 1) / 2
            · rw [if_pos e3]
              have := h.1 x h0 hx e
              rw [e3] at this
              exact leE_trans c3 this
            · rw [if_neg e3]
              exact h.1 x h0 hx e
      · rw [swE_get l _ _ _ (by omega) (by omega), swE_get l _ _ _ (by omega) (by omega), if_neg (by omega), if_neg (by omega)]
        have h1 := h.1 ((j - 1) / 2) hi (by omega) (by omega)
        by_cases e : x = j
        · rw [if_pos e]
          exact h1
        · rw [if_neg e, if_neg (by omega)]
          have h2 := h.1 x h0 hx e
          rw [hp] at h2
          exact leE_trans h1 h2
theorem kid_least (l : List El) (i n x : Nat) (h : 2 * i + 1 < n) (h0 : 0 < x) (hx : x < n) (hp : (x - 1) / 2 = i) : leE (l.getD (kidE l i n) d0) (l.getD x d0) := by
  have hc : x = 2 * i + 1 ∨ x = 2 * i + 2 := by omega
  unfold kidE
  split
  · rename_i c
    rcases hc with rfl | rfl
    · exact leE_of c.2
    · exact leE_refl _
  · rename_i c
    rcases hc with rfl | rfl
    · exact leE_refl _
    · rw [leE_iff]
      cases e : lessE (l.getD (2 * i + 2) d0) (l.getD (2 * i + 1) d0)
      · rfl
      · exact absurd ⟨hx, e⟩ c
theorem down_step {l : List El} {n i : Nat} (hn : n ≤ l.length) (h : MdI l n i) (hc : 2 * i + 1 < n) (hl : lessE (l.getD (kidE l i n) d0) (l.getD i d0) = true) : DnI (swE l i (kidE l i n)) n (kidE l i n) := by
  have hk := kidE_cases l i n hc
  have h1 := leE_of hl
  have h2 := fun x => kid_least l i n x hc
  generalize kidE l i n = j at *
  refine ⟨fun x h0 hx hp => ?_, fun x h0 hx hp hj => ?_⟩
  · rw [swE_get l _ _ _ (by omega) (by omega), swE_get l _ _ _ (by omega) (by omega), if_neg hp]
    by_cases e : x = j
    · rw [if_pos e, if_pos (by omega)]
      exact h1
    · rw [if_neg e]
      by_cases e2 : x = i
      · subst e2
        rw [if_neg (by omega), if_pos rfl]
        exact h.2 j (by omega) hk.2 (by omega) h0
      · rw [if_neg e2]
        by_cases e3 : (x - 1) / 2 = i
        · rw [if_pos e3]
          exact h2 x h0 hx e3
        · rw [if_neg e3]
          exact h.1 x h0 hx e2 e3
  · rw [swE_get l _ _ _ (by omega) (by omega), swE_get l _ _ _ (by omega) (by omega), if_neg (by omega), if_pos (by omega), if_neg (by omega), if_neg (by omega)]
    have := h.1 x h0 hx (by omega) (by omega)
    rwa [hp] at this
theorem dn_ok : ∀ (k : Nat) (l : List El) (i n : Nat), n ≤ i + k → n ≤ l.length → DnI l n i → Hp (dnE k l i n).1 n
  | 0, l, i, n, hk, hn, h => fun x h0 hx => h.1 x h0 hx (by omega)
  | k + 1, l, i, n, hk, hn, h => by
    unfold dnE
    by_cases c1 : n ≤ 2 * i + 1
    · rw [if_pos (Or.inl c1)]
      exact fun x h0 hx => h.1 x h0 hx (by omega)
    · cases c2 : lessE (l.getD (kidE l i n) d0) (l.getD i d0)
      · rw [if_pos (Or.inr rfl)]
        intro x h0 hx
        by_cases e : (x - 1) / 2 = i
        · rw [e]
          exact leE_trans (leE_iff.2 c2) (kid_least l i n x (by omega) h0 hx e)
        · exact h.1 x h0 hx e
      · rw [if_neg (fun h => h.elim c1 (by decide))]
        have hk2 := kidE_cases l i n (by omega)
        exact dn_ok k _ _ n (by omega) (by rw [swE_len]; omega) (down_step hn ⟨fun x h0 hx _ hp => h.1 x h0 hx hp, h.2⟩ (by omega) c2)
theorem dnE_ge : ∀ (k : Nat) (l : List El) (i n : Nat), i ≤ (dnE k l i n).2
  | 0, _, _, _ => Nat.le_refl _
  | k + 1, l, i, n => by
    unfold dnE
    split
    · exact Nat.le_refl _
    · rename_i h
      have hk := kidE_cases l i n (by omega)
      have := dnE_ge k (swE l i (kidE l i n)) (kidE l i n) n
      omega
/-- Down, and up where nothing went down: a heap. -/
def fixE (l : List El) (i n : Nat) : List El := if (dnE n l i n).2 = i then upE i (dnE n l i n).1 i else (dnE n l i n).1
theorem fix_ok (l : List El) (i n : Nat) (hi : i < n) (hn : n ≤ l.length) (h : MdI l n i) : Hp (fixE l i n) n := by
  unfold fixE
  obtain ⟨k, rfl⟩ : ∃ k, n = k + 1 := ⟨n - 1, by omega⟩
  have hd : dnE (k + 1) l i (k + 1) = if k + 1 ≤ 2 * i + 1 ∨ lessE (l.getD (kidE l i (k + 1)) d0) (l.getD i d0) = false then (l, i) else dnE k (swE l i (kidE l i (k + 1))) (kidE l i (k + 1)) (k + 1) := rfl
  by_cases c1 : k + 1 ≤ 2 * i + 1
  · rw [if_pos (Or.inl c1)] at hd
    rw [hd, if_pos rfl]
    exact up_ok i l i (k + 1) (Nat.le_refl _) hi hn ⟨fun x h0 hx hne => h.1 x h0 hx hne (by omega), h.2⟩
  · cases c2 : lessE (l.getD (kidE l i (k + 1)) d0) (l.getD i d0)
    · rw [if_pos (Or.inr c2)] at hd
      rw [hd, if_pos rfl]
      refine up_ok i l i (k + 1) (Nat.le_refl _) hi hn ⟨fun x h0 hx hne => ?_, h.2⟩
      by_cases e : (x - 1) / 2 = i
      · rw [e]
        exact leE_trans (leE_iff.2 c2) (kid_least l i (k + 1) x (by omega) h0 hx e)
      · exact h.1 x h0 hx hne e
    · rw [c2, if_neg (fun h => h.elim c1 (by decide))] at hd
      have hk2 := kidE_cases l i (k + 1) (by omega)
      have hge := dnE_ge k (swE l i (kidE l i (k + 1))) (kidE l i (k + 1)) (k + 1)
      rw [hd, if_neg (by omega)]
      exact dn_ok k _ _ (k + 1) (by omega) (by rw [swE_len]; omega) (down_step hn h (by omega) c2)
theorem fix_perm (l : List El) (i n : Nat) (hi : i < n) (hn : n ≤ l.length) : (fixE l i n).Perm l := by
  unfold fixE
  have h := dnE_perm n l i n (by omega) hn
  split
  · exact (upE_perm i _ i (by rw [dnE_len]; omega)).trans h
  · exact h
theorem fix_len (l : List El) (i n : Nat) : (fixE l i n).length = l.length := by
  unfold fixE
  split
  · rw [upE_len, dnE_len]
  · rw [dnE_len]
theorem fix_tail (l : List El) (i n x : Nat) (hi : i < n) (hn : n ≤ l.length) (hx : n ≤ x) : (fixE l i n).getD x d0 = l.getD x d0 := by
  unfold fixE
  split
  · rw [upE_tail i _ i n x hi (by rw [dnE_len]; omega) hx, dnE_tail n l i n x hi hn hx]
  · rw [dnE_tail n l i n x hi hn hx]
theorem root_least {l : List El} {n : Nat} (h : Hp l n) : ∀ j : Nat, j < n → leE (l.getD 0 d0) (l.getD j d0) := by
  intro j
  induction j using Nat.strongRecOn with
  | ind j ih =>
    intro hj
    by_cases e : j = 0
    · subst e; exact leE_refl _
    · exact leE_trans (ih ((j - 1) / 2) (by omega) (by omega)) (h j (by omega) hj)
theorem push_ok (l : List El) (x : El) (h : Hp l l.length) : Hp (upE l.length (l ++ [x]) l.length) (l.length + 1) := by
  refine up_ok l.length _ l.length (l.length + 1) (Nat.le_refl _) (Nat.lt_succ_self _) (by simp) ⟨fun j h0 hj hne => ?_, fun c h0 hc hp hi => by omega⟩
  have e1 : ∀ y : Nat, y < l.length → (l ++ [x]).getD y d0 = l.getD y d0 := fun y hy => by
    rw [List.getD_eq_getElem?_getD, List.getElem?_append_left hy, List.getD_eq_getElem?_getD]
  rw [e1 _ (by omega), e1 _ (by omega)]
  exact h j h0 (by omega)
theorem md_of {l l' : List El} {n i : Nat} (h : Hp l n) (he : ∀ x : Nat, x < n → x ≠ i → l'.getD x d0 = l.getD x d0) (hi : i < n) : MdI l' n i := by
  refine ⟨fun j h0 hj hne hp => ?_, fun c h0 hc hp hi0 => ?_⟩
  · rw [he j hj hne, he _ (by omega) hp]
    exact h j h0 hj
  · rw [he c hc (by omega), he _ (by omega) (by omega)]
    have h1 := h i hi0 hi
    have h2 := h c h0 hc
    rw [hp] at h2
    exact leE_trans h1 h2

end Go.Proofs.Ytjmfhlapjghipaa.PAll
