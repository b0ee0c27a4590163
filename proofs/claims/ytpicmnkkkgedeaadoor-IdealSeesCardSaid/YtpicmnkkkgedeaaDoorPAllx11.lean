/- The Go functions that the laws reach, as Lean functions, and that each call comes to what its function says. Written by a program of this session (a turned copy of the kit's print). No condition beyond those that each theorem states. -/
import Derived.Test.YtpicmnkkkgedeaaDoorPAllx0
import Derived.Test.YtpicmnkkkgedeaaDoorPAllx1
import Derived.Test.YtpicmnkkkgedeaaDoorPAllx2
import Derived.Test.YtpicmnkkkgedeaaDoorPAllx3
import Derived.Test.YtpicmnkkkgedeaaDoorPAllx4
import Derived.Test.YtpicmnkkkgedeaaDoorPAllx7
import Derived.Test.YtpicmnkkkgedeaaDoorPAllx8
import Derived.Test.YtpicmnkkkgedeaaDoorPAllx9
import Derived.Test.YtpicmnkkkgedeaaDoorPAllx10
namespace Go.Proofs.YtpicmnkkkgedeaaDoor.PAll
open Go.RowKit Go.Proofs.YtpicmnkkkgedeaaDoorW.PrintWords Go.Proofs.YtpicmnkkkgedeaaDoorW.PrintLast Go.Proofs.YtpicmnkkkgedeaaDoorW.PrintMore
attribute [local go_sem] max2_int min2_int max_two min_two max_three min_three max_four min_four   -- for this text's walks alone
set_option linter.unusedVariables false
set_option linter.unusedSimpArgs false

/-! ### slices_Equal_uint32_uint32: function 45 -/
def slices_Equal_uint32_uint32.l0 : Nat → List Int → List Int → Int → Int → Option (Bool)
  | 0, _, _, _, _ => none
  | k + 1, x0, x1, x12, x13 => if x13 < x12 then (if 0 ≤ x13 then (if x13 < (x0.length : Int) then (if x13 < (x1.length : Int) then (if (rd x0 x13) = (rd x1 x13) then (slices_Equal_uint32_uint32.l0 k x0 x1 x12 (wrap64 (x13 + 1))) else (some false)) else (none)) else (none)) else (none)) else (some true)
def slices_Equal_uint32_uint32.f (k : Nat) (l0 : List Int) (l1 : List Int) : Option (Bool) := if (l0.length : Int) = (l1.length : Int) then (slices_Equal_uint32_uint32.l0 k l0 l1 (l0.length : Int) 0) else (some false)
theorem slices_Equal_uint32_uint32.mono_l : ∀ k, (∀ y0 y1 y2 y3, LeO (slices_Equal_uint32_uint32.l0 k y0 y1 y2 y3) (slices_Equal_uint32_uint32.l0 (k + 1) y0 y1 y2 y3))
  | 0 => fun _ _ _ _ r h => by simp [slices_Equal_uint32_uint32.l0] at h
  | k + 1 => by
    have ih0 := slices_Equal_uint32_uint32.mono_l k
    · intro y0 y1 y2 y3
      unfold slices_Equal_uint32_uint32.l0
      repeat' first
      | (with_reducible exact ih0 _ _ _ _)
      | (with_reducible exact LeO.refl _)
      | (with_reducible exact LeO.none _)
      | (with_reducible refine LeO.ite ?_ ?_)
      | (with_reducible refine LeO.bind ?_ (fun _ => ?_))
      | exact ih0 _ _ _ _
      | exact LeO.none _
      | refine LeO.ite ?_ ?_
      | refine LeO.bind ?_ (fun _ => ?_)
theorem slices_Equal_uint32_uint32.mono : ∀ a0 a1 k, LeO (slices_Equal_uint32_uint32.f k a0 a1) (slices_Equal_uint32_uint32.f (k + 1) a0 a1) := by
  intro a0 a1 k
  have ih0 := slices_Equal_uint32_uint32.mono_l k
  unfold slices_Equal_uint32_uint32.f
  repeat' first
      | (with_reducible exact ih0 _ _ _ _)
      | (with_reducible exact LeO.refl _)
      | (with_reducible exact LeO.none _)
      | (with_reducible refine LeO.ite ?_ ?_)
      | (with_reducible refine LeO.bind ?_ (fun _ => ?_))
      | exact ih0 _ _ _ _
      | exact LeO.none _
      | refine LeO.ite ?_ ?_
      | refine LeO.bind ?_ (fun _ => ?_)
set_option maxHeartbeats 8000000 in
set_option maxRecDepth 100000 in
theorem slices_Equal_uint32_uint32.calls (k : Nat) (A0 : Option Addr) (c0 : Nat) (l0 : List Int) (A1 : Option Addr) (c1 : Nat) (l1 : List Int) (r : Bool) (w : World) (hr0 : Kd.C (Kd.int .u32) w A0 l0.length l0) (hc0 : l0.length ≤ c0) (hr1 : Kd.C (Kd.int .u32) w A1 l1.length l1) (hc1 : l1.length ≤ c1) (h : slices_Equal_uint32_uint32.f k l0 l1 = some r) :
    Calls Tryd.prog 45 #[.slice A0 l0.length c0, .slice A1 l1.length c1] w fun e w' => e = .returned (.bool r) ∧ Drawn0 w w' := by
  have HR0 := Aside0.mk hr0
  have HC0 := Aside0.mk hc0
  clear hr0 hc0
  have HR1 := Aside0.mk hr1
  have HC1 := Aside0.mk hc1
  clear hr1 hc1
  have H : (if (l0.length : Int) = (l1.length : Int) then (slices_Equal_uint32_uint32.l0 k l0 l1 (l0.length : Int) 0) else (some false)) = some r := h
  clear h
  by_cases c3 : (l0.length : Int) = (l1.length : Int)
  · rw [if_pos c3] at H
    have c3b0 : ((l0.length : Int) == (l1.length : Int)) = true := beq_iff_eq.mpr c3
    have c3b1 : ((l0.length : Int) != (l1.length : Int)) = false := bne_eq_false_iff_eq.mpr c3
    have c3b2 : (l0.length == l1.length) = true := by first | simpa using c3 | (simp at c3 ⊢; omega)
    clear c3
    have H' := Aside0.mk H
    clear H
    go_enter Tryd.func45, Tryd.ntmps45
    go_wp2
    repeat (go_quiet (fail); try go_wp2)
    go_loopg [13] k (fun kq v13 w' => ∃ (x13_1 : Int), v13 = .int .i64 x13_1 ∧ Aside0 (slices_Equal_uint32_uint32.l0 kq l0 l1 (l0.length : Int) x13_1 = some r) ∧ Aside0 (kq ≤ k) ∧ Drawn0 w w')
    case atStart => exact ⟨(0), (by first | rfl | (simp; done) | (simp [*]; done)), H', ⟨Nat.le_refl _⟩, by repeat (first | exact Drawn0.refl _ | apply Drawn0.step)⟩
    case round =>
      clear H'
      try clear c1
      try clear p2
      try clear c3
      try clear c3b0
      try clear c3b1
      try clear c3b2
      obtain ⟨x13_1, rfl, HA, HK1, ⟨m1, rfl⟩⟩ := hrel
      cases gk with
      | zero => exact absurd HA.out (by simp [slices_Equal_uint32_uint32.l0])
      | succ k1 =>
        have H := HA.out
        clear HA
        simp only [slices_Equal_uint32_uint32.l0] at H
        by_cases c4 : x13_1 < (l0.length : Int)
        · rw [if_pos c4] at H
          have c4b0 : decide (x13_1 < (l0.length : Int)) = true := decide_eq_true c4
          clear c4
          by_cases c5 : 0 ≤ x13_1
          · rw [if_pos c5] at H
            have c5b0 : decide (0 ≤ x13_1) = true := decide_eq_true c5
            clear c5
            by_cases c6 : x13_1 < (l0.length : Int)
            · rw [if_pos c6] at H
              have c6b0 : decide (x13_1 < (l0.length : Int)) = true := decide_eq_true c6
              clear c6
              by_cases c7 : x13_1 < (l1.length : Int)
              · rw [if_pos c7] at H
                have c7b0 : decide (x13_1 < (l1.length : Int)) = true := decide_eq_true c7
                clear c7
                by_cases c8 : (rd l0 x13_1) = (rd l1 x13_1)
                · rw [if_pos c8] at H
                  have c8b0 : ((rd l0 x13_1) == (rd l1 x13_1)) = true := beq_iff_eq.mpr c8
                  have c8b1 : ((rd l0 x13_1) != (rd l1 x13_1)) = false := bne_eq_false_iff_eq.mpr c8
                  clear c8
                  have H' := Aside0.mk H
                  clear H
                  have p168 : 0 ≤ (x13_1 : Int) := of_decide_eq_true (by first | (with_reducible assumption) | assumption)
                  have q168 : x13_1 < (l0.length : Int) := of_decide_eq_true (by first | (with_reducible assumption) | assumption)
                  obtain ⟨ad168, e168, hx168_0⟩ := Kd.at_int HR0.out x13_1 p168 q168
                  cases e168
                  replace p168 := eq_true p168
                  replace q168 := eq_true q168
                  have p169 : 0 ≤ (x13_1 : Int) := of_decide_eq_true (by first | (with_reducible assumption) | assumption)
                  have q169 : x13_1 < (l1.length : Int) := of_decide_eq_true (by first | (with_reducible assumption) | assumption)
                  obtain ⟨ad169, e169, hx169_0⟩ := Kd.at_int HR1.out x13_1 p169 q169
                  cases e169
                  replace p169 := eq_true p169
                  replace q169 := eq_true q169
                  go_wp2
                  repeat (go_quiet (fail); try go_wp2)
                  go_roundg k1
                  case measure => have := HK1.out; omega
                  case rel => exact ⟨(wrap64 (x13_1 + 1)), (by first | rfl | (simp; done) | (simp [*]; done)), H', ⟨by have := HK1.out; omega⟩, by repeat (first | exact Drawn0.refl _ | apply Drawn0.step)⟩
                · rw [if_neg c8] at H
                  have c8b0 : ((rd l0 x13_1) == (rd l1 x13_1)) = false := beq_eq_false_iff_ne.mpr c8
                  have c8b1 : ((rd l0 x13_1) != (rd l1 x13_1)) = true := bne_iff_ne.mpr c8
                  obtain rfl := Option.some.inj H
                  have p168 : 0 ≤ (x13_1 : Int) := of_decide_eq_true (by first | (with_reducible assumption) | assumption)
                  have q168 : x13_1 < (l0.length : Int) := of_decide_eq_true (by first | (with_reducible assumption) | assumption)
                  obtain ⟨ad168, e168, hx168_0⟩ := Kd.at_int HR0.out x13_1 p168 q168
                  cases e168
                  replace p168 := eq_true p168
                  replace q168 := eq_true q168
                  have p169 : 0 ≤ (x13_1 : Int) := of_decide_eq_true (by first | (with_reducible assumption) | assumption)
                  have q169 : x13_1 < (l1.length : Int) := of_decide_eq_true (by first | (with_reducible assumption) | assumption)
                  obtain ⟨ad169, e169, hx169_0⟩ := Kd.at_int HR1.out x13_1 p169 q169
                  cases e169
                  replace p169 := eq_true p169
                  replace q169 := eq_true q169
                  go_wp2
                  repeat (go_quiet (fail); try go_wp2)
                  go_ret
                  exact ⟨by first | rfl | (simp; done) | (simp [*]; done), by repeat (first | exact Drawn0.refl _ | apply Drawn0.step)⟩
              · rw [if_neg c7] at H
                exact absurd H (by simp)
            · rw [if_neg c6] at H
              exact absurd H (by simp)
          · rw [if_neg c5] at H
            exact absurd H (by simp)
        · rw [if_neg c4] at H
          have c4b0 : decide (x13_1 < (l0.length : Int)) = false := decide_eq_false c4
          clear c4
          obtain rfl := Option.some.inj H
          go_wp2
          repeat (go_quiet (fail); try go_wp2)
          go_ret
          exact ⟨by first | rfl | (simp; done) | (simp [*]; done), by repeat (first | exact Drawn0.refl _ | apply Drawn0.step)⟩
  · rw [if_neg c3] at H
    have c3b0 : ((l0.length : Int) == (l1.length : Int)) = false := beq_eq_false_iff_ne.mpr c3
    have c3b1 : ((l0.length : Int) != (l1.length : Int)) = true := bne_iff_ne.mpr c3
    have c3b2 : (l0.length == l1.length) = false := by first | simpa using c3 | (simp at c3 ⊢; omega)
    obtain rfl := Option.some.inj H
    go_enter Tryd.func45, Tryd.ntmps45
    go_wp2
    repeat (go_quiet (fail); try go_wp2)
    go_ret
    exact ⟨by first | rfl | (simp; done) | (simp [*]; done), by repeat (first | exact Drawn0.refl _ | apply Drawn0.step)⟩

/-! ### slices_EqualFunc_uint32_uint32_uint32_uint32_44_f45: function 44 -/
def slices_EqualFunc_uint32_uint32_uint32_uint32_44_f45.l0 : Nat → List (List Int) → List (List Int) → Int → Int → Option (Bool)
  | 0, _, _, _, _ => none
  | k + 1, x1, x15, x16, x17 => if x17 < x16 then (if 0 ≤ x17 then (if x17 < (x15.length : Int) then (if x17 < (x1.length : Int) then ((slices_Equal_uint32_uint32.f k (rd_L1 x15 x17) (rd_L1 x1 x17)).bind fun t172 => (if t172 = true then (slices_EqualFunc_uint32_uint32_uint32_uint32_44_f45.l0 k x1 x15 x16 (wrap64 (x17 + 1))) else (some false))) else (none)) else (none)) else (none)) else (some true)
def slices_EqualFunc_uint32_uint32_uint32_uint32_44_f45.f (k : Nat) (l0 : List (List Int)) (l1 : List (List Int)) (a2 : Int) : Option (Bool) := if (l0.length : Int) = (l1.length : Int) then (slices_EqualFunc_uint32_uint32_uint32_uint32_44_f45.l0 k l1 l0 (l0.length : Int) 0) else (some false)
theorem slices_EqualFunc_uint32_uint32_uint32_uint32_44_f45.mono_l : ∀ k, (∀ y0 y1 y2 y3, LeO (slices_EqualFunc_uint32_uint32_uint32_uint32_44_f45.l0 k y0 y1 y2 y3) (slices_EqualFunc_uint32_uint32_uint32_uint32_44_f45.l0 (k + 1) y0 y1 y2 y3))
  | 0 => fun _ _ _ _ r h => by simp [slices_EqualFunc_uint32_uint32_uint32_uint32_44_f45.l0] at h
  | k + 1 => by
    have ih0 := slices_EqualFunc_uint32_uint32_uint32_uint32_44_f45.mono_l k
    · intro y0 y1 y2 y3
      unfold slices_EqualFunc_uint32_uint32_uint32_uint32_44_f45.l0
      repeat' first
      | (with_reducible exact ih0 _ _ _ _)
      | (with_reducible exact slices_Equal_uint32_uint32.mono _ _ _)
      | (with_reducible exact LeO.refl _)
      | (with_reducible exact LeO.none _)
      | (with_reducible refine LeO.ite ?_ ?_)
      | (with_reducible refine LeO.bind ?_ (fun _ => ?_))
      | exact ih0 _ _ _ _
      | exact slices_Equal_uint32_uint32.mono _ _ _
      | exact LeO.none _
      | refine LeO.ite ?_ ?_
      | refine LeO.bind ?_ (fun _ => ?_)
theorem slices_EqualFunc_uint32_uint32_uint32_uint32_44_f45.mono : ∀ a0 a1 a2 k, LeO (slices_EqualFunc_uint32_uint32_uint32_uint32_44_f45.f k a0 a1 a2) (slices_EqualFunc_uint32_uint32_uint32_uint32_44_f45.f (k + 1) a0 a1 a2) := by
  intro a0 a1 a2 k
  have ih0 := slices_EqualFunc_uint32_uint32_uint32_uint32_44_f45.mono_l k
  unfold slices_EqualFunc_uint32_uint32_uint32_uint32_44_f45.f
  repeat' first
      | (with_reducible exact ih0 _ _ _ _)
      | (with_reducible exact slices_Equal_uint32_uint32.mono _ _ _)
      | (with_reducible exact LeO.refl _)
      | (with_reducible exact LeO.none _)
      | (with_reducible refine LeO.ite ?_ ?_)
      | (with_reducible refine LeO.bind ?_ (fun _ => ?_))
      | exact ih0 _ _ _ _
      | exact slices_Equal_uint32_uint32.mono _ _ _
      | exact LeO.none _
      | refine LeO.ite ?_ ?_
      | refine LeO.bind ?_ (fun _ => ?_)
set_option maxHeartbeats 8000000 in
set_option maxRecDepth 100000 in
theorem slices_EqualFunc_uint32_uint32_uint32_uint32_44_f45.calls (k : Nat) (A0 : Option Addr) (c0 : Nat) (l0 : List (List Int)) (A1 : Option Addr) (c1 : Nat) (l1 : List (List Int)) (a2 : Int) (r : Bool) (w : World) (hr0 : Kd.C (Kd.slice 37 (Kd.int .u32)) w A0 l0.length l0) (hc0 : l0.length ≤ c0) (hr1 : Kd.C (Kd.slice 37 (Kd.int .u32)) w A1 l1.length l1) (hc1 : l1.length ≤ c1) (h : slices_EqualFunc_uint32_uint32_uint32_uint32_44_f45.f k l0 l1 a2 = some r) :
    Calls Tryd.prog 44 #[.slice A0 l0.length c0, .slice A1 l1.length c1, .func (.func 45) #[] #[]] w fun e w' => e = .returned (.bool r) ∧ Drawn0 w w' := by
  have HR0 := Aside0.mk hr0
  have HC0 := Aside0.mk hc0
  clear hr0 hc0
  have HR1 := Aside0.mk hr1
  have HC1 := Aside0.mk hc1
  clear hr1 hc1
  have H : (if (l0.length : Int) = (l1.length : Int) then (slices_EqualFunc_uint32_uint32_uint32_uint32_44_f45.l0 k l1 l0 (l0.length : Int) 0) else (some false)) = some r := h
  clear h
  by_cases c4 : (l0.length : Int) = (l1.length : Int)
  · rw [if_pos c4] at H
    have c4b0 : ((l0.length : Int) == (l1.length : Int)) = true := beq_iff_eq.mpr c4
    have c4b1 : ((l0.length : Int) != (l1.length : Int)) = false := bne_eq_false_iff_eq.mpr c4
    have c4b2 : (l0.length == l1.length) = true := by first | simpa using c4 | (simp at c4 ⊢; omega)
    clear c4
    have H' := Aside0.mk H
    clear H
    go_enter Tryd.func44, Tryd.ntmps44
    go_wp2
    go_loopg [17] k (fun kq v17 w' => ∃ (x17_1 : Int), v17 = .int .i64 x17_1 ∧ Aside0 (slices_EqualFunc_uint32_uint32_uint32_uint32_44_f45.l0 kq l1 l0 (l0.length : Int) x17_1 = some r) ∧ Aside0 (kq ≤ k) ∧ Drawn0 w w')
    case atStart => exact ⟨(0), (by first | rfl | (simp; done) | (simp [*]; done)), H', ⟨Nat.le_refl _⟩, by repeat (first | exact Drawn0.refl _ | apply Drawn0.step)⟩
    case round =>
      clear H'
      try clear c1
      try clear p2
      try clear c4
      try clear c4b0
      try clear c4b1
      try clear c4b2
      obtain ⟨x17_1, rfl, HA, HK1, ⟨m1, rfl⟩⟩ := hrel
      cases gk with
      | zero => exact absurd HA.out (by simp [slices_EqualFunc_uint32_uint32_uint32_uint32_44_f45.l0])
      | succ k1 =>
        have H := HA.out
        clear HA
        simp only [slices_EqualFunc_uint32_uint32_uint32_uint32_44_f45.l0] at H
        by_cases c5 : x17_1 < (l0.length : Int)
        · rw [if_pos c5] at H
          have c5b0 : decide (x17_1 < (l0.length : Int)) = true := decide_eq_true c5
          clear c5
          by_cases c6 : 0 ≤ x17_1
          · rw [if_pos c6] at H
            have c6b0 : decide (0 ≤ x17_1) = true := decide_eq_true c6
            clear c6
            by_cases c7 : x17_1 < (l0.length : Int)
            · rw [if_pos c7] at H
              have c7b0 : decide (x17_1 < (l0.length : Int)) = true := decide_eq_true c7
              clear c7
              by_cases c8 : x17_1 < (l1.length : Int)
              · rw [if_pos c8] at H
                have c8b0 : decide (x17_1 < (l1.length : Int)) = true := decide_eq_true c8
                clear c8
                replace H := Option.bind_eq_some_iff.mp H
                obtain ⟨t172, A90, H⟩ := H
                replace H : (if t172 = true then (slices_EqualFunc_uint32_uint32_uint32_uint32_44_f45.l0 k1 l1 l0 (l0.length : Int) (wrap64 (x17_1 + 1))) else (some false)) = some r := H
                have A9 := Aside0.mk A90
                clear A90
                by_cases c10 : t172 = true
                · subst c10
                  have H1 : (slices_EqualFunc_uint32_uint32_uint32_uint32_44_f45.l0 k1 l1 l0 (l0.length : Int) (wrap64 (x17_1 + 1))) = some r := by rw [if_pos rfl] at H; exact H
                  clear H
                  have H := H1
                  clear H1
                  have H' := Aside0.mk H
                  clear H
                  have p170 : 0 ≤ (x17_1 : Int) := of_decide_eq_true (by first | (with_reducible assumption) | assumption)
                  have q170 : x17_1 < (l0.length : Int) := of_decide_eq_true (by first | (with_reducible assumption) | assumption)
                  obtain ⟨ad170, A170_0, c170_0, e170, hx170_0, hl170_0, hi170_0⟩ := at_L1 HR0.out x17_1 p170 q170
                  cases e170
                  have HR170_0 := Aside0.mk hi170_0
                  have HC170_0 := Aside0.mk hl170_0
                  clear hi170_0 hl170_0
                  replace p170 := eq_true p170
                  replace q170 := eq_true q170
                  have p171 : 0 ≤ (x17_1 : Int) := of_decide_eq_true (by first | (with_reducible assumption) | assumption)
                  have q171 : x17_1 < (l1.length : Int) := of_decide_eq_true (by first | (with_reducible assumption) | assumption)
                  obtain ⟨ad171, A171_0, c171_0, e171, hx171_0, hl171_0, hi171_0⟩ := at_L1 HR1.out x17_1 p171 q171
                  cases e171
                  have HR171_0 := Aside0.mk hi171_0
                  have HC171_0 := Aside0.mk hl171_0
                  clear hi171_0 hl171_0
                  replace p171 := eq_true p171
                  replace q171 := eq_true q171
                  go_wp2_with (first | (go_at_call 45; (with_reducible refine (slices_Equal_uint32_uint32.calls k1 _ _ (rd_L1 l0 x17_1) _ _ (rd_L1 l1 x17_1) true _ ?side1 ?side2 ?side3 ?side4 A9.out).mono ?_); (case side1 => repeat (first | exact HR170_0.out | (with_reducible refine Kd.C_alloc ?_ _) | (with_reducible refine Kd.C_drewN ?_ _) | (with_reducible refine Kd.C_drew ?_))); (case side2 => exact HC170_0.out); (case side3 => repeat (first | exact HR171_0.out | (with_reducible refine Kd.C_alloc ?_ _) | (with_reducible refine Kd.C_drewN ?_ _) | (with_reducible refine Kd.C_drew ?_))); (case side4 => exact HC171_0.out); rintro e w' ⟨rfl, ⟨nd, rfl⟩⟩; skip))
                  go_roundg k1
                  case measure => have := HK1.out; omega
                  case rel => exact ⟨(wrap64 (x17_1 + 1)), (by first | rfl | (simp; done) | (simp [*]; done)), H', ⟨by have := HK1.out; omega⟩, by repeat (first | exact Drawn0.refl _ | apply Drawn0.step)⟩
                · replace c10 := Bool.eq_false_iff.mpr c10
                  subst c10
                  have H1 : (some false) = some r := by rw [if_neg (show ¬ (false = true) by decide)] at H; exact H
                  clear H
                  have H := H1
                  clear H1
                  obtain rfl := Option.some.inj H
                  have p170 : 0 ≤ (x17_1 : Int) := of_decide_eq_true (by first | (with_reducible assumption) | assumption)
                  have q170 : x17_1 < (l0.length : Int) := of_decide_eq_true (by first | (with_reducible assumption) | assumption)
                  obtain ⟨ad170, A170_0, c170_0, e170, hx170_0, hl170_0, hi170_0⟩ := at_L1 HR0.out x17_1 p170 q170
                  cases e170
                  have HR170_0 := Aside0.mk hi170_0
                  have HC170_0 := Aside0.mk hl170_0
                  clear hi170_0 hl170_0
                  replace p170 := eq_true p170
                  replace q170 := eq_true q170
                  have p171 : 0 ≤ (x17_1 : Int) := of_decide_eq_true (by first | (with_reducible assumption) | assumption)
                  have q171 : x17_1 < (l1.length : Int) := of_decide_eq_true (by first | (with_reducible assumption) | assumption)
                  obtain ⟨ad171, A171_0, c171_0, e171, hx171_0, hl171_0, hi171_0⟩ := at_L1 HR1.out x17_1 p171 q171
                  cases e171
                  have HR171_0 := Aside0.mk hi171_0
                  have HC171_0 := Aside0.mk hl171_0
                  clear hi171_0 hl171_0
                  replace p171 := eq_true p171
                  replace q171 := eq_true q171
                  go_wp2_with (first | (go_at_call 45; (with_reducible refine (slices_Equal_uint32_uint32.calls k1 _ _ (rd_L1 l0 x17_1) _ _ (rd_L1 l1 x17_1) false _ ?side1 ?side2 ?side3 ?side4 A9.out).mono ?_); (case side1 => repeat (first | exact HR170_0.out | (with_reducible refine Kd.C_alloc ?_ _) | (with_reducible refine Kd.C_drewN ?_ _) | (with_reducible refine Kd.C_drew ?_))); (case side2 => exact HC170_0.out); (case side3 => repeat (first | exact HR171_0.out | (with_reducible refine Kd.C_alloc ?_ _) | (with_reducible refine Kd.C_drewN ?_ _) | (with_reducible refine Kd.C_drew ?_))); (case side4 => exact HC171_0.out); rintro e w' ⟨rfl, ⟨nd, rfl⟩⟩; skip))
                  go_ret
                  exact ⟨by first | rfl | (simp; done) | (simp [*]; done), by repeat (first | exact Drawn0.refl _ | apply Drawn0.step)⟩
              · rw [if_neg c8] at H
                exact absurd H (by simp)
            · rw [if_neg c7] at H
              exact absurd H (by simp)
          · rw [if_neg c6] at H
            exact absurd H (by simp)
        · rw [if_neg c5] at H
          have c5b0 : decide (x17_1 < (l0.length : Int)) = false := decide_eq_false c5
          clear c5
          obtain rfl := Option.some.inj H
          go_wp2
          go_ret
          exact ⟨by first | rfl | (simp; done) | (simp [*]; done), by repeat (first | exact Drawn0.refl _ | apply Drawn0.step)⟩
  · rw [if_neg c4] at H
    have c4b0 : ((l0.length : Int) == (l1.length : Int)) = false := beq_eq_false_iff_ne.mpr c4
    have c4b1 : ((l0.length : Int) != (l1.length : Int)) = true := bne_iff_ne.mpr c4
    have c4b2 : (l0.length == l1.length) = false := by first | simpa using c4 | (simp at c4 ⊢; omega)
    obtain rfl := Option.some.inj H
    go_enter Tryd.func44, Tryd.ntmps44
    go_wp2
    go_ret
    exact ⟨by first | rfl | (simp; done) | (simp [*]; done), by repeat (first | exact Drawn0.refl _ | apply Drawn0.step)⟩

/-! ### ideal_same: function 31 -/
def ideal_same.f (k : Nat) (l0 : List (List Int)) (l1 : List (List Int)) : Option (Bool) := (slices_EqualFunc_uint32_uint32_uint32_uint32_44_f45.f k l0 l1 0).bind fun t173 => (some t173)
theorem ideal_same.mono : ∀ a0 a1 k, LeO (ideal_same.f k a0 a1) (ideal_same.f (k + 1) a0 a1) := by
  intro a0 a1 k
  unfold ideal_same.f
  repeat' first
      | (with_reducible exact slices_EqualFunc_uint32_uint32_uint32_uint32_44_f45.mono _ _ _ _)
      | (with_reducible exact LeO.refl _)
      | (with_reducible exact LeO.none _)
      | (with_reducible refine LeO.ite ?_ ?_)
      | (with_reducible refine LeO.bind ?_ (fun _ => ?_))
      | exact slices_EqualFunc_uint32_uint32_uint32_uint32_44_f45.mono _ _ _ _
      | exact LeO.none _
      | refine LeO.ite ?_ ?_
      | refine LeO.bind ?_ (fun _ => ?_)
set_option maxHeartbeats 8000000 in
set_option maxRecDepth 100000 in
theorem ideal_same.calls (k : Nat) (A0 : Option Addr) (c0 : Nat) (l0 : List (List Int)) (A1 : Option Addr) (c1 : Nat) (l1 : List (List Int)) (r : Bool) (w : World) (hr0 : Kd.C (Kd.slice 37 (Kd.int .u32)) w A0 l0.length l0) (hc0 : l0.length ≤ c0) (hr1 : Kd.C (Kd.slice 37 (Kd.int .u32)) w A1 l1.length l1) (hc1 : l1.length ≤ c1) (h : ideal_same.f k l0 l1 = some r) :
    Calls Tryd.prog 31 #[.slice A0 l0.length c0, .slice A1 l1.length c1] w fun e w' => e = .returned (.bool r) ∧ Drawn0 w w' := by
  have HR0 := Aside0.mk hr0
  have HC0 := Aside0.mk hc0
  clear hr0 hc0
  have HR1 := Aside0.mk hr1
  have HC1 := Aside0.mk hc1
  clear hr1 hc1
  have H : ((slices_EqualFunc_uint32_uint32_uint32_uint32_44_f45.f k l0 l1 0).bind fun t173 => (some t173)) = some r := h
  clear h
  replace H := Option.bind_eq_some_iff.mp H
  obtain ⟨t173, A30, H⟩ := H
  replace H : (some t173) = some r := H
  have A3 := Aside0.mk A30
  clear A30
  obtain rfl := Option.some.inj H
  go_enter Tryd.func31, Tryd.ntmps31
  go_wp2_with (first | ((with_reducible refine gate_callee (f := 44) rfl ?_); refine goesL_ (some 7) rfl rfl Tryd.func44 (by kernel_rfl) rfl #[.slice A0 l0.length c0, .slice A1 l1.length c1, .func (.func 45) #[] #[]] rfl (by (try simp only [List.map_toArray, List.map_cons, List.map_nil]); first | done | rfl | (simp only [List.length_drop, List.length_take]; rfl)) ?_; (with_reducible refine (slices_EqualFunc_uint32_uint32_uint32_uint32_44_f45.calls k _ _ l0 _ _ l1 0 t173 _ ?side1 ?side2 ?side3 ?side4 A3.out).mono ?_); (case side1 => repeat (first | exact HR0.out | (with_reducible refine Kd.C_alloc ?_ _) | (with_reducible refine Kd.C_drewN ?_ _) | (with_reducible refine Kd.C_drew ?_))); (case side2 => exact HC0.out); (case side3 => repeat (first | exact HR1.out | (with_reducible refine Kd.C_alloc ?_ _) | (with_reducible refine Kd.C_drewN ?_ _) | (with_reducible refine Kd.C_drew ?_))); (case side4 => exact HC1.out); rintro e w' ⟨rfl, ⟨nd, rfl⟩⟩; refine ⟨_, rfl, ?_⟩))
  go_ret
  exact ⟨by first | rfl | (simp; done) | (simp [*]; done), by repeat (first | exact Drawn0.refl _ | apply Drawn0.step)⟩

/-! ### slices_EqualFunc_uint32_uint32_uint32_uint32_32_f31: function 32 -/
def slices_EqualFunc_uint32_uint32_uint32_uint32_32_f31.l0 : Nat → List (List (List Int)) → List (List (List Int)) → Int → Int → Option (Bool)
  | 0, _, _, _, _ => none
  | k + 1, x1, x15, x16, x17 => if x17 < x16 then (if 0 ≤ x17 then (if x17 < (x15.length : Int) then (if x17 < (x1.length : Int) then ((ideal_same.f k (rd_L2 x15 x17) (rd_L2 x1 x17)).bind fun t176 => (if t176 = true then (slices_EqualFunc_uint32_uint32_uint32_uint32_32_f31.l0 k x1 x15 x16 (wrap64 (x17 + 1))) else (some false))) else (none)) else (none)) else (none)) else (some true)
def slices_EqualFunc_uint32_uint32_uint32_uint32_32_f31.f (k : Nat) (l0 : List (List (List Int))) (l1 : List (List (List Int))) (a2 : Int) : Option (Bool) := if (l0.length : Int) = (l1.length : Int) then (slices_EqualFunc_uint32_uint32_uint32_uint32_32_f31.l0 k l1 l0 (l0.length : Int) 0) else (some false)
theorem slices_EqualFunc_uint32_uint32_uint32_uint32_32_f31.mono_l : ∀ k, (∀ y0 y1 y2 y3, LeO (slices_EqualFunc_uint32_uint32_uint32_uint32_32_f31.l0 k y0 y1 y2 y3) (slices_EqualFunc_uint32_uint32_uint32_uint32_32_f31.l0 (k + 1) y0 y1 y2 y3))
  | 0 => fun _ _ _ _ r h => by simp [slices_EqualFunc_uint32_uint32_uint32_uint32_32_f31.l0] at h
  | k + 1 => by
    have ih0 := slices_EqualFunc_uint32_uint32_uint32_uint32_32_f31.mono_l k
    · intro y0 y1 y2 y3
      unfold slices_EqualFunc_uint32_uint32_uint32_uint32_32_f31.l0
      repeat' first
      | (with_reducible exact ih0 _ _ _ _)
      | (with_reducible exact ideal_same.mono _ _ _)
      | (with_reducible exact LeO.refl _)
      | (with_reducible exact LeO.none _)
      | (with_reducible refine LeO.ite ?_ ?_)
      | (with_reducible refine LeO.bind ?_ (fun _ => ?_))
      | exact ih0 _ _ _ _
      | exact ideal_same.mono _ _ _
      | exact LeO.none _
      | refine LeO.ite ?_ ?_
      | refine LeO.bind ?_ (fun _ => ?_)
theorem slices_EqualFunc_uint32_uint32_uint32_uint32_32_f31.mono : ∀ a0 a1 a2 k, LeO (slices_EqualFunc_uint32_uint32_uint32_uint32_32_f31.f k a0 a1 a2) (slices_EqualFunc_uint32_uint32_uint32_uint32_32_f31.f (k + 1) a0 a1 a2) := by
  intro a0 a1 a2 k
  have ih0 := slices_EqualFunc_uint32_uint32_uint32_uint32_32_f31.mono_l k
  unfold slices_EqualFunc_uint32_uint32_uint32_uint32_32_f31.f
  repeat' first
      | (with_reducible exact ih0 _ _ _ _)
      | (with_reducible exact ideal_same.mono _ _ _)
      | (with_reducible exact LeO.refl _)
      | (with_reducible exact LeO.none _)
      | (with_reducible refine LeO.ite ?_ ?_)
      | (with_reducible refine LeO.bind ?_ (fun _ => ?_))
      | exact ih0 _ _ _ _
      | exact ideal_same.mono _ _ _
      | exact LeO.none _
      | refine LeO.ite ?_ ?_
      | refine LeO.bind ?_ (fun _ => ?_)
set_option maxHeartbeats 8000000 in
set_option maxRecDepth 100000 in
theorem slices_EqualFunc_uint32_uint32_uint32_uint32_32_f31.calls (k : Nat) (A0 : Option Addr) (c0 : Nat) (l0 : List (List (List Int))) (A1 : Option Addr) (c1 : Nat) (l1 : List (List (List Int))) (a2 : Int) (r : Bool) (w : World) (hr0 : Kd.C (Kd.slice 35 (Kd.slice 37 (Kd.int .u32))) w A0 l0.length l0) (hc0 : l0.length ≤ c0) (hr1 : Kd.C (Kd.slice 35 (Kd.slice 37 (Kd.int .u32))) w A1 l1.length l1) (hc1 : l1.length ≤ c1) (h : slices_EqualFunc_uint32_uint32_uint32_uint32_32_f31.f k l0 l1 a2 = some r) :
    Calls Tryd.prog 32 #[.slice A0 l0.length c0, .slice A1 l1.length c1, .func (.func 31) #[] #[]] w fun e w' => e = .returned (.bool r) ∧ Drawn0 w w' := by
  have HR0 := Aside0.mk hr0
  have HC0 := Aside0.mk hc0
  clear hr0 hc0
  have HR1 := Aside0.mk hr1
  have HC1 := Aside0.mk hc1
  clear hr1 hc1
  have H : (if (l0.length : Int) = (l1.length : Int) then (slices_EqualFunc_uint32_uint32_uint32_uint32_32_f31.l0 k l1 l0 (l0.length : Int) 0) else (some false)) = some r := h
  clear h
  by_cases c4 : (l0.length : Int) = (l1.length : Int)
  · rw [if_pos c4] at H
    have c4b0 : ((l0.length : Int) == (l1.length : Int)) = true := beq_iff_eq.mpr c4
    have c4b1 : ((l0.length : Int) != (l1.length : Int)) = false := bne_eq_false_iff_eq.mpr c4
    have c4b2 : (l0.length == l1.length) = true := by first | simpa using c4 | (simp at c4 ⊢; omega)
    clear c4
    have H' := Aside0.mk H
    clear H
    go_enter Tryd.func32, Tryd.ntmps32
    go_wp2
    go_loopg [17] k (fun kq v17 w' => ∃ (x17_1 : Int), v17 = .int .i64 x17_1 ∧ Aside0 (slices_EqualFunc_uint32_uint32_uint32_uint32_32_f31.l0 kq l1 l0 (l0.length : Int) x17_1 = some r) ∧ Aside0 (kq ≤ k) ∧ Drawn0 w w')
    case atStart => exact ⟨(0), (by first | rfl | (simp; done) | (simp [*]; done)), H', ⟨Nat.le_refl _⟩, by repeat (first | exact Drawn0.refl _ | apply Drawn0.step)⟩
    case round =>
      clear H'
      try clear c1
      try clear p2
      try clear c4
      try clear c4b0
      try clear c4b1
      try clear c4b2
      obtain ⟨x17_1, rfl, HA, HK1, ⟨m1, rfl⟩⟩ := hrel
      cases gk with
      | zero => exact absurd HA.out (by simp [slices_EqualFunc_uint32_uint32_uint32_uint32_32_f31.l0])
      | succ k1 =>
        have H := HA.out
        clear HA
        simp only [slices_EqualFunc_uint32_uint32_uint32_uint32_32_f31.l0] at H
        by_cases c5 : x17_1 < (l0.length : Int)
        · rw [if_pos c5] at H
          have c5b0 : decide (x17_1 < (l0.length : Int)) = true := decide_eq_true c5
          clear c5
          by_cases c6 : 0 ≤ x17_1
          · rw [if_pos c6] at H
            have c6b0 : decide (0 ≤ x17_1) = true := decide_eq_true c6
            clear c6
            by_cases c7 : x17_1 < (l0.length : Int)
            · rw [if_pos c7] at H
              have c7b0 : decide (x17_1 < (l0.length : Int)) = true := decide_eq_true c7
              clear c7
              by_cases c8 : x17_1 < (l1.length : Int)
              · rw [if_pos c8] at H
                have c8b0 : decide (x17_1 < (l1.length : Int)) = true := decide_eq_true c8
                clear c8
                replace H := Option.bind_eq_some_iff.mp H
                obtain ⟨t176, A90, H⟩ := H
                replace H : (if t176 = true then (slices_EqualFunc_uint32_uint32_uint32_uint32_32_f31.l0 k1 l1 l0 (l0.length : Int) (wrap64 (x17_1 + 1))) else (some false)) = some r := H
                have A9 := Aside0.mk A90
                clear A90
                by_cases c10 : t176 = true
                · subst c10
                  have H1 : (slices_EqualFunc_uint32_uint32_uint32_uint32_32_f31.l0 k1 l1 l0 (l0.length : Int) (wrap64 (x17_1 + 1))) = some r := by rw [if_pos rfl] at H; exact H
                  clear H
                  have H := H1
                  clear H1
                  have H' := Aside0.mk H
                  clear H
                  have p174 : 0 ≤ (x17_1 : Int) := of_decide_eq_true (by first | (with_reducible assumption) | assumption)
                  have q174 : x17_1 < (l0.length : Int) := of_decide_eq_true (by first | (with_reducible assumption) | assumption)
                  obtain ⟨ad174, A174_0, c174_0, e174, hx174_0, hl174_0, hi174_0⟩ := at_L2 HR0.out x17_1 p174 q174
                  cases e174
                  have HR174_0 := Aside0.mk hi174_0
                  have HC174_0 := Aside0.mk hl174_0
                  clear hi174_0 hl174_0
                  replace p174 := eq_true p174
                  replace q174 := eq_true q174
                  have p175 : 0 ≤ (x17_1 : Int) := of_decide_eq_true (by first | (with_reducible assumption) | assumption)
                  have q175 : x17_1 < (l1.length : Int) := of_decide_eq_true (by first | (with_reducible assumption) | assumption)
                  obtain ⟨ad175, A175_0, c175_0, e175, hx175_0, hl175_0, hi175_0⟩ := at_L2 HR1.out x17_1 p175 q175
                  cases e175
                  have HR175_0 := Aside0.mk hi175_0
                  have HC175_0 := Aside0.mk hl175_0
                  clear hi175_0 hl175_0
                  replace p175 := eq_true p175
                  replace q175 := eq_true q175
                  go_wp2_with (first | (go_at_call 31; (with_reducible refine (ideal_same.calls k1 _ _ (rd_L2 l0 x17_1) _ _ (rd_L2 l1 x17_1) true _ ?side1 ?side2 ?side3 ?side4 A9.out).mono ?_); (case side1 => repeat (first | exact HR174_0.out | (with_reducible refine Kd.C_alloc ?_ _) | (with_reducible refine Kd.C_drewN ?_ _) | (with_reducible refine Kd.C_drew ?_))); (case side2 => exact HC174_0.out); (case side3 => repeat (first | exact HR175_0.out | (with_reducible refine Kd.C_alloc ?_ _) | (with_reducible refine Kd.C_drewN ?_ _) | (with_reducible refine Kd.C_drew ?_))); (case side4 => exact HC175_0.out); rintro e w' ⟨rfl, ⟨nd, rfl⟩⟩; skip))
                  go_roundg k1
                  case measure => have := HK1.out; omega
                  case rel => exact ⟨(wrap64 (x17_1 + 1)), (by first | rfl | (simp; done) | (simp [*]; done)), H', ⟨by have := HK1.out; omega⟩, by repeat (first | exact Drawn0.refl _ | apply Drawn0.step)⟩
                · replace c10 := Bool.eq_false_iff.mpr c10
                  subst c10
                  have H1 : (some false) = some r := by rw [if_neg (show ¬ (false = true) by decide)] at H; exact H
                  clear H
                  have H := H1
                  clear H1
                  obtain rfl := Option.some.inj H
                  have p174 : 0 ≤ (x17_1 : Int) := of_decide_eq_true (by first | (with_reducible assumption) | assumption)
                  have q174 : x17_1 < (l0.length : Int) := of_decide_eq_true (by first | (with_reducible assumption) | assumption)
                  obtain ⟨ad174, A174_0, c174_0, e174, hx174_0, hl174_0, hi174_0⟩ := at_L2 HR0.out x17_1 p174 q174
                  cases e174
                  have HR174_0 := Aside0.mk hi174_0
                  have HC174_0 := Aside0.mk hl174_0
                  clear hi174_0 hl174_0
                  replace p174 := eq_true p174
                  replace q174 := eq_true q174
                  have p175 : 0 ≤ (x17_1 : Int) := of_decide_eq_true (by first | (with_reducible assumption) | assumption)
                  have q175 : x17_1 < (l1.length : Int) := of_decide_eq_true (by first | (with_reducible assumption) | assumption)
                  obtain ⟨ad175, A175_0, c175_0, e175, hx175_0, hl175_0, hi175_0⟩ := at_L2 HR1.out x17_1 p175 q175
                  cases e175
                  have HR175_0 := Aside0.mk hi175_0
                  have HC175_0 := Aside0.mk hl175_0
                  clear hi175_0 hl175_0
                  replace p175 := eq_true p175
                  replace q175 := eq_true q175
                  go_wp2_with (first | (go_at_call 31; (with_reducible refine (ideal_same.calls k1 _ _ (rd_L2 l0 x17_1) _ _ (rd_L2 l1 x17_1) false _ ?side1 ?side2 ?side3 ?side4 A9.out).mono ?_); (case side1 => repeat (first | exact HR174_0.out | (with_reducible refine Kd.C_alloc ?_ _) | (with_reducible refine Kd.C_drewN ?_ _) | (with_reducible refine Kd.C_drew ?_))); (case side2 => exact HC174_0.out); (case side3 => repeat (first | exact HR175_0.out | (with_reducible refine Kd.C_alloc ?_ _) | (with_reducible refine Kd.C_drewN ?_ _) | (with_reducible refine Kd.C_drew ?_))); (case side4 => exact HC175_0.out); rintro e w' ⟨rfl, ⟨nd, rfl⟩⟩; skip))
                  go_ret
                  exact ⟨by first | rfl | (simp; done) | (simp [*]; done), by repeat (first | exact Drawn0.refl _ | apply Drawn0.step)⟩
              · rw [if_neg c8] at H
                exact absurd H (by simp)
            · rw [if_neg c7] at H
              exact absurd H (by simp)
          · rw [if_neg c6] at H
            exact absurd H (by simp)
        · rw [if_neg c5] at H
          have c5b0 : decide (x17_1 < (l0.length : Int)) = false := decide_eq_false c5
          clear c5
          obtain rfl := Option.some.inj H
          go_wp2
          go_ret
          exact ⟨by first | rfl | (simp; done) | (simp [*]; done), by repeat (first | exact Drawn0.refl _ | apply Drawn0.step)⟩
  · rw [if_neg c4] at H
    have c4b0 : ((l0.length : Int) == (l1.length : Int)) = false := beq_eq_false_iff_ne.mpr c4
    have c4b1 : ((l0.length : Int) != (l1.length : Int)) = true := bne_iff_ne.mpr c4
    have c4b2 : (l0.length == l1.length) = false := by first | simpa using c4 | (simp at c4 ⊢; omega)
    obtain rfl := Option.some.inj H
    go_enter Tryd.func32, Tryd.ntmps32
    go_wp2
    go_ret
    exact ⟨by first | rfl | (simp; done) | (simp [*]; done), by repeat (first | exact Drawn0.refl _ | apply Drawn0.step)⟩

theorem ideal_Same.keepB {W0 W w1 : World} {g : Nat} {o : Obj} (h : Aside0 (W0.heap[g]? = some o)) (hb : Below W.heap.size W w1) (hs : W0.heap[g]? = some o → W.heap[g]? = some o := by intro h_; (with_reducible repeat (first | refine blk_drewN ?_ _ | refine blk_drew ?_ | refine blk_alloc ?_ _)); exact h_) : Aside0 (w1.heap[g]? = some o) := ⟨(hb.block g (blk_lt (hs h.out))).trans (hs h.out)⟩
theorem ideal_Same.neL {W0 W : World} {g gb : Nat} {o : Obj} (h : Aside0 (W0.heap[g]? = some o)) (hg : gb = W.heap.size) (hs : W0.heap[g]? = some o → W.heap[g]? = some o := by intro h_; (with_reducible repeat (first | refine blk_drewN ?_ _ | refine blk_drew ?_ | refine blk_alloc ?_ _)); exact h_) : Aside0 (g ≠ gb) := ⟨by rw [hg]; exact Nat.ne_of_lt (blk_lt (hs h.out))⟩
theorem ideal_Same.neG {W0 W : World} {g gb : Nat} {o : Obj} (h : Aside0 (W0.heap[g]? = some o)) (hg : gb = W.heap.size) (hs : W0.heap[g]? = some o → W.heap[g]? = some o := by intro h_; (with_reducible repeat (first | refine blk_drewN ?_ _ | refine blk_drew ?_ | refine blk_alloc ?_ _)); exact h_) : Aside0 (gb ≠ g) := ⟨by rw [hg]; exact Nat.ne_of_gt (blk_lt (hs h.out))⟩
/-! ### ideal_Same: function 18 -/
def ideal_Same.f (k : Nat) (l0_0 : List (List Int)) (l0_1 : List (List Int)) (l0_2 : List (List (List Int))) (l1_0 : List (List Int)) (l1_1 : List (List Int)) (l1_2 : List (List (List Int))) : Option (Bool) := (ideal_same.f k l0_0 l1_0).bind fun t179 => (if t179 = true then ((ideal_same.f k l0_1 l1_1).bind fun t180 => (if t180 = true then ((slices_EqualFunc_uint32_uint32_uint32_uint32_32_f31.f k l0_2 l1_2 0).bind fun t181 => (some t181)) else (some false))) else (some false))
theorem ideal_Same.mono : ∀ a0 a1 a2 a3 a4 a5 k, LeO (ideal_Same.f k a0 a1 a2 a3 a4 a5) (ideal_Same.f (k + 1) a0 a1 a2 a3 a4 a5) := by
  intro a0 a1 a2 a3 a4 a5 k
  unfold ideal_Same.f
  repeat' first
      | (with_reducible exact ideal_same.mono _ _ _)
      | (with_reducible exact slices_EqualFunc_uint32_uint32_uint32_uint32_32_f31.mono _ _ _ _)
      | (with_reducible exact LeO.refl _)
      | (with_reducible exact LeO.none _)
      | (with_reducible refine LeO.ite ?_ ?_)
      | (with_reducible refine LeO.bind ?_ (fun _ => ?_))
      | exact ideal_same.mono _ _ _
      | exact slices_EqualFunc_uint32_uint32_uint32_uint32_32_f31.mono _ _ _ _
      | exact LeO.none _
      | refine LeO.ite ?_ ?_
      | refine LeO.bind ?_ (fun _ => ?_)
set_option maxHeartbeats 8000000 in
set_option maxRecDepth 100000 in
theorem ideal_Same.calls (k : Nat) (A0_0 : Option Addr) (c0_0 : Nat) (l0_0 : List (List Int)) (A0_1 : Option Addr) (c0_1 : Nat) (l0_1 : List (List Int)) (A0_2 : Option Addr) (c0_2 : Nat) (l0_2 : List (List (List Int))) (A1_0 : Option Addr) (c1_0 : Nat) (l1_0 : List (List Int)) (A1_1 : Option Addr) (c1_1 : Nat) (l1_1 : List (List Int)) (A1_2 : Option Addr) (c1_2 : Nat) (l1_2 : List (List (List Int))) (r : Bool) (w : World) (hr0_0 : Kd.C (Kd.slice 37 (Kd.int .u32)) w A0_0 l0_0.length l0_0) (hc0_0 : l0_0.length ≤ c0_0) (hr0_1 : Kd.C (Kd.slice 37 (Kd.int .u32)) w A0_1 l0_1.length l0_1) (hc0_1 : l0_1.length ≤ c0_1) (hr0_2 : Kd.C (Kd.slice 35 (Kd.slice 37 (Kd.int .u32))) w A0_2 l0_2.length l0_2) (hc0_2 : l0_2.length ≤ c0_2) (hr1_0 : Kd.C (Kd.slice 37 (Kd.int .u32)) w A1_0 l1_0.length l1_0) (hc1_0 : l1_0.length ≤ c1_0) (hr1_1 : Kd.C (Kd.slice 37 (Kd.int .u32)) w A1_1 l1_1.length l1_1) (hc1_1 : l1_1.length ≤ c1_1) (hr1_2 : Kd.C (Kd.slice 35 (Kd.slice 37 (Kd.int .u32))) w A1_2 l1_2.length l1_2) (hc1_2 : l1_2.length ≤ c1_2) (h : ideal_Same.f k l0_0 l0_1 l0_2 l1_0 l1_1 l1_2 = some r) :
    Calls Tryd.prog 18 #[.agg #[.slice A0_0 l0_0.length c0_0, .slice A0_1 l0_1.length c0_1, .slice A0_2 l0_2.length c0_2], .agg #[.slice A1_0 l1_0.length c1_0, .slice A1_1 l1_1.length c1_1, .slice A1_2 l1_2.length c1_2]] w fun e w' => e = .returned (.bool r) ∧ Below w.heap.size w w' := by
  have hu30 := Tryd.underlying30
  have HR0_0 := Aside0.mk hr0_0
  have HC0_0 := Aside0.mk hc0_0
  clear hr0_0 hc0_0
  have HR0_1 := Aside0.mk hr0_1
  have HC0_1 := Aside0.mk hc0_1
  clear hr0_1 hc0_1
  have HR0_2 := Aside0.mk hr0_2
  have HC0_2 := Aside0.mk hc0_2
  clear hr0_2 hc0_2
  have HR1_0 := Aside0.mk hr1_0
  have HC1_0 := Aside0.mk hc1_0
  clear hr1_0 hc1_0
  have HR1_1 := Aside0.mk hr1_1
  have HC1_1 := Aside0.mk hc1_1
  clear hr1_1 hc1_1
  have HR1_2 := Aside0.mk hr1_2
  have HC1_2 := Aside0.mk hc1_2
  clear hr1_2 hc1_2
  have HB := Aside0.mk (Below.refl w.heap.size w)
  have H : ((ideal_same.f k l0_0 l1_0).bind fun t179 => (if t179 = true then ((ideal_same.f k l0_1 l1_1).bind fun t180 => (if t180 = true then ((slices_EqualFunc_uint32_uint32_uint32_uint32_32_f31.f k l0_2 l1_2 0).bind fun t181 => (some t181)) else (some false))) else (some false))) = some r := h
  clear h
  replace H := Option.bind_eq_some_iff.mp H
  obtain ⟨t179, A30, H⟩ := H
  replace H : (if t179 = true then ((ideal_same.f k l0_1 l1_1).bind fun t180 => (if t180 = true then ((slices_EqualFunc_uint32_uint32_uint32_uint32_32_f31.f k l0_2 l1_2 0).bind fun t181 => (some t181)) else (some false))) else (some false)) = some r := H
  have A3 := Aside0.mk A30
  clear A30
  by_cases c4 : t179 = true
  · subst c4
    have H1 : ((ideal_same.f k l0_1 l1_1).bind fun t180 => (if t180 = true then ((slices_EqualFunc_uint32_uint32_uint32_uint32_32_f31.f k l0_2 l1_2 0).bind fun t181 => (some t181)) else (some false))) = some r := by rw [if_pos rfl] at H; exact H
    clear H
    have H := H1
    clear H1
    replace H := Option.bind_eq_some_iff.mp H
    obtain ⟨t180, A50, H⟩ := H
    replace H : (if t180 = true then ((slices_EqualFunc_uint32_uint32_uint32_uint32_32_f31.f k l0_2 l1_2 0).bind fun t181 => (some t181)) else (some false)) = some r := H
    have A5 := Aside0.mk A50
    clear A50
    by_cases c6 : t180 = true
    · subst c6
      have H1 : ((slices_EqualFunc_uint32_uint32_uint32_uint32_32_f31.f k l0_2 l1_2 0).bind fun t181 => (some t181)) = some r := by rw [if_pos rfl] at H; exact H
      clear H
      have H := H1
      clear H1
      replace H := Option.bind_eq_some_iff.mp H
      obtain ⟨t181, A70, H⟩ := H
      replace H : (some t181) = some r := H
      have A7 := Aside0.mk A70
      clear A70
      obtain rfl := Option.some.inj H
      go_enter Tryd.func18, Tryd.ntmps18
      go_wp2_with (first | ((with_reducible refine gate_dst (N := 2) rfl ?_); refine box_event ?hg (N := 2) ?hd (cs := #[.slice A0_0 l0_0.length c0_0, .slice A0_1 l0_1.length c0_1, .slice A0_2 l0_2.length c0_2]) (t := 30) ?hr ?_; (case hd => rfl); (case hg => rfl); (case hr => first | (go_simp; done) | (go_simp; rfl)); intro gb177 hg w8 hbox hb; have n0_ := Aside0.mk (below_step (by repeat (first | (with_reducible first | exact HB.out | apply below_alloc | apply pw_below_drewN | apply below_drew1) | exact HB.out)) hb); have n1_ := Aside0.mk (hbox); have n2_ := Aside0.mk ((by rw [hg]; exact (below_size (by repeat (first | (with_reducible first | exact HB.out | apply below_alloc | apply pw_below_drewN | apply below_drew1) | exact HB.out))) : w.heap.size ≤ gb177)); have n3_ := Aside0.mk ((by rw [hg]; exact (below_size (by repeat (first | (with_reducible first | exact HB.out | apply below_alloc | apply pw_below_drewN | apply below_drew1) | exact HB.out))) : w.heap.size ≤ gb177)); clear HB; have HB := n0_; have BK177 := n1_; have GW177 := n2_; have GE177 := n3_; clear n0_ n1_ n2_ n3_; clear hb hbox hg) | ((with_reducible refine gate_dst (N := 3) rfl ?_); refine box_event ?hg (N := 3) ?hd (cs := #[.slice A1_0 l1_0.length c1_0, .slice A1_1 l1_1.length c1_1, .slice A1_2 l1_2.length c1_2]) (t := 30) ?hr ?_; (case hd => rfl); (case hg => rfl); (case hr => first | (go_simp; done) | (go_simp; rfl)); intro gb178 hg w9 hbox hb; have n0_ := ideal_Same.keepB BK177 hb; have n1_ := Aside0.mk (below_step (by repeat (first | (with_reducible first | exact HB.out | apply below_alloc | apply pw_below_drewN | apply below_drew1 | refine below_set ?_ GE177.out) | exact HB.out)) hb); have n2_ := Aside0.mk (hbox); have n3_ := Aside0.mk ((by rw [hg]; exact (below_size (by repeat (first | (with_reducible first | exact HB.out | apply below_alloc | apply pw_below_drewN | apply below_drew1 | refine below_set ?_ GE177.out) | exact HB.out))) : w.heap.size ≤ gb178)); have n4_ := Aside0.mk ((by rw [hg]; exact (below_size (by repeat (first | (with_reducible first | exact HB.out | apply below_alloc | apply pw_below_drewN | apply below_drew1 | refine below_set ?_ GE177.out) | exact HB.out))) : w.heap.size ≤ gb178)); have n5_ := ideal_Same.neL BK177 hg; have n6_ := ideal_Same.neG BK177 hg; clear BK177; clear HB; have BK177 := n0_; have HB := n1_; have BK178 := n2_; have GW178 := n3_; have GE178 := n4_; have NB177_178 := n5_; have NB178_177 := n6_; clear n0_ n1_ n2_ n3_ n4_ n5_ n6_; clear hb hbox hg; have hnb10 := NB177_178.out; have hnc10 := NB178_177.out; have hcz11_0 : w9.cell? ⟨gb177, 0, none⟩ = some (.slice A0_0 l0_0.length c0_0) := (blk_cell BK177.out 0).trans rfl; have hcz11_1 : w9.cell? ⟨gb177, 1, none⟩ = some (.slice A0_1 l0_1.length c0_1) := (blk_cell BK177.out 1).trans rfl; have hcz11_2 : w9.cell? ⟨gb177, 2, none⟩ = some (.slice A0_2 l0_2.length c0_2) := (blk_cell BK177.out 2).trans rfl; have hfz11_0 := blk_frozen BK177.out 0; have hfz11_1 := blk_frozen BK177.out 1; have hfz11_2 := blk_frozen BK177.out 2; have hcz12_0 : w9.cell? ⟨gb178, 0, none⟩ = some (.slice A1_0 l1_0.length c1_0) := (blk_cell BK178.out 0).trans rfl; have hcz12_1 : w9.cell? ⟨gb178, 1, none⟩ = some (.slice A1_1 l1_1.length c1_1) := (blk_cell BK178.out 1).trans rfl; have hcz12_2 : w9.cell? ⟨gb178, 2, none⟩ = some (.slice A1_2 l1_2.length c1_2) := (blk_cell BK178.out 2).trans rfl; have hfz12_0 := blk_frozen BK178.out 0; have hfz12_1 := blk_frozen BK178.out 1; have hfz12_2 := blk_frozen BK178.out 2) | ((with_reducible refine gate_callee (f := 31) rfl ?_); refine goesL_ (some 9) rfl rfl Tryd.func31 (by kernel_rfl) rfl #[.slice A0_0 l0_0.length c0_0, .slice A1_0 l1_0.length c1_0] rfl (by (try simp only [List.map_toArray, List.map_cons, List.map_nil]); first | done | rfl | (simp only [List.length_drop, List.length_take]; rfl)) ?_; (with_reducible refine (ideal_same.calls k _ _ l0_0 _ _ l1_0 true _ ?side1 ?side2 ?side3 ?side4 A3.out).mono ?_); (case side1 => repeat (first | exact (Kd.C_below HR0_0.out HB.out) | (with_reducible refine Kd.C_alloc ?_ _) | (with_reducible refine Kd.C_drewN ?_ _) | (with_reducible refine Kd.C_drew ?_))); (case side2 => exact HC0_0.out); (case side3 => repeat (first | exact (Kd.C_below HR1_0.out HB.out) | (with_reducible refine Kd.C_alloc ?_ _) | (with_reducible refine Kd.C_drewN ?_ _) | (with_reducible refine Kd.C_drew ?_))); (case side4 => exact HC1_0.out); rintro e w' ⟨rfl, ⟨nd, rfl⟩⟩; refine ⟨_, rfl, ?_⟩) | (go_at_call 31; (with_reducible refine (ideal_same.calls k _ _ l0_1 _ _ l1_1 true _ ?side1 ?side2 ?side3 ?side4 A5.out).mono ?_); (case side1 => repeat (first | exact (Kd.C_below HR0_1.out (by repeat (first | (with_reducible first | exact HB.out | apply below_alloc | apply pw_below_drewN | apply below_drew1 | refine below_set ?_ GE177.out | refine below_set ?_ GE178.out) | exact HB.out))) | (with_reducible refine Kd.C_alloc ?_ _) | (with_reducible refine Kd.C_drewN ?_ _) | (with_reducible refine Kd.C_drew ?_))); (case side2 => exact HC0_1.out); (case side3 => repeat (first | exact (Kd.C_below HR1_1.out (by repeat (first | (with_reducible first | exact HB.out | apply below_alloc | apply pw_below_drewN | apply below_drew1 | refine below_set ?_ GE177.out | refine below_set ?_ GE178.out) | exact HB.out))) | (with_reducible refine Kd.C_alloc ?_ _) | (with_reducible refine Kd.C_drewN ?_ _) | (with_reducible refine Kd.C_drew ?_))); (case side4 => exact HC1_1.out); rintro e w' ⟨rfl, ⟨nd, rfl⟩⟩) | (go_at_call 32; (with_reducible refine (slices_EqualFunc_uint32_uint32_uint32_uint32_32_f31.calls k _ _ l0_2 _ _ l1_2 0 t181 _ ?side1 ?side2 ?side3 ?side4 A7.out).mono ?_); (case side1 => repeat (first | exact (Kd.C_below HR0_2.out (by repeat (first | (with_reducible first | exact HB.out | apply below_alloc | apply pw_below_drewN | apply below_drew1 | refine below_set ?_ GE177.out | refine below_set ?_ GE178.out) | exact HB.out))) | (with_reducible refine Kd.C_alloc ?_ _) | (with_reducible refine Kd.C_drewN ?_ _) | (with_reducible refine Kd.C_drew ?_))); (case side2 => exact HC0_2.out); (case side3 => repeat (first | exact (Kd.C_below HR1_2.out (by repeat (first | (with_reducible first | exact HB.out | apply below_alloc | apply pw_below_drewN | apply below_drew1 | refine below_set ?_ GE177.out | refine below_set ?_ GE178.out) | exact HB.out))) | (with_reducible refine Kd.C_alloc ?_ _) | (with_reducible refine Kd.C_drewN ?_ _) | (with_reducible refine Kd.C_drew ?_))); (case side4 => exact HC1_2.out); rintro e w' ⟨rfl, ⟨nd, rfl⟩⟩))
      go_ret
      exact ⟨by first | rfl | (simp [errW_none, errW_some] <;> rfl) | (simp [*, errW_none, errW_some] <;> rfl), by repeat (first | (with_reducible first | exact HB.out | apply below_alloc | apply pw_below_drewN | apply below_drew1 | refine below_set ?_ GE177.out | refine below_set ?_ GE178.out) | exact HB.out)⟩
    · replace c6 := Bool.eq_false_iff.mpr c6
      subst c6
      have H1 : (some false) = some r := by rw [if_neg (show ¬ (false = true) by decide)] at H; exact H
      clear H
      have H := H1
      clear H1
      obtain rfl := Option.some.inj H
      go_enter Tryd.func18, Tryd.ntmps18
      go_wp2_with (first | ((with_reducible refine gate_dst (N := 2) rfl ?_); refine box_event ?hg (N := 2) ?hd (cs := #[.slice A0_0 l0_0.length c0_0, .slice A0_1 l0_1.length c0_1, .slice A0_2 l0_2.length c0_2]) (t := 30) ?hr ?_; (case hd => rfl); (case hg => rfl); (case hr => first | (go_simp; done) | (go_simp; rfl)); intro gb177 hg w13 hbox hb; have n0_ := Aside0.mk (below_step (by repeat (first | (with_reducible first | exact HB.out | apply below_alloc | apply pw_below_drewN | apply below_drew1) | exact HB.out)) hb); have n1_ := Aside0.mk (hbox); have n2_ := Aside0.mk ((by rw [hg]; exact (below_size (by repeat (first | (with_reducible first | exact HB.out | apply below_alloc | apply pw_below_drewN | apply below_drew1) | exact HB.out))) : w.heap.size ≤ gb177)); have n3_ := Aside0.mk ((by rw [hg]; exact (below_size (by repeat (first | (with_reducible first | exact HB.out | apply below_alloc | apply pw_below_drewN | apply below_drew1) | exact HB.out))) : w.heap.size ≤ gb177)); clear HB; have HB := n0_; have BK177 := n1_; have GW177 := n2_; have GE177 := n3_; clear n0_ n1_ n2_ n3_; clear hb hbox hg) | ((with_reducible refine gate_dst (N := 3) rfl ?_); refine box_event ?hg (N := 3) ?hd (cs := #[.slice A1_0 l1_0.length c1_0, .slice A1_1 l1_1.length c1_1, .slice A1_2 l1_2.length c1_2]) (t := 30) ?hr ?_; (case hd => rfl); (case hg => rfl); (case hr => first | (go_simp; done) | (go_simp; rfl)); intro gb178 hg w14 hbox hb; have n0_ := ideal_Same.keepB BK177 hb; have n1_ := Aside0.mk (below_step (by repeat (first | (with_reducible first | exact HB.out | apply below_alloc | apply pw_below_drewN | apply below_drew1 | refine below_set ?_ GE177.out) | exact HB.out)) hb); have n2_ := Aside0.mk (hbox); have n3_ := Aside0.mk ((by rw [hg]; exact (below_size (by repeat (first | (with_reducible first | exact HB.out | apply below_alloc | apply pw_below_drewN | apply below_drew1 | refine below_set ?_ GE177.out) | exact HB.out))) : w.heap.size ≤ gb178)); have n4_ := Aside0.mk ((by rw [hg]; exact (below_size (by repeat (first | (with_reducible first | exact HB.out | apply below_alloc | apply pw_below_drewN | apply below_drew1 | refine below_set ?_ GE177.out) | exact HB.out))) : w.heap.size ≤ gb178)); have n5_ := ideal_Same.neL BK177 hg; have n6_ := ideal_Same.neG BK177 hg; clear BK177; clear HB; have BK177 := n0_; have HB := n1_; have BK178 := n2_; have GW178 := n3_; have GE178 := n4_; have NB177_178 := n5_; have NB178_177 := n6_; clear n0_ n1_ n2_ n3_ n4_ n5_ n6_; clear hb hbox hg; have hnb15 := NB177_178.out; have hnc15 := NB178_177.out; have hcz16_0 : w14.cell? ⟨gb177, 0, none⟩ = some (.slice A0_0 l0_0.length c0_0) := (blk_cell BK177.out 0).trans rfl; have hcz16_1 : w14.cell? ⟨gb177, 1, none⟩ = some (.slice A0_1 l0_1.length c0_1) := (blk_cell BK177.out 1).trans rfl; have hcz16_2 : w14.cell? ⟨gb177, 2, none⟩ = some (.slice A0_2 l0_2.length c0_2) := (blk_cell BK177.out 2).trans rfl; have hfz16_0 := blk_frozen BK177.out 0; have hfz16_1 := blk_frozen BK177.out 1; have hfz16_2 := blk_frozen BK177.out 2; have hcz17_0 : w14.cell? ⟨gb178, 0, none⟩ = some (.slice A1_0 l1_0.length c1_0) := (blk_cell BK178.out 0).trans rfl; have hcz17_1 : w14.cell? ⟨gb178, 1, none⟩ = some (.slice A1_1 l1_1.length c1_1) := (blk_cell BK178.out 1).trans rfl; have hcz17_2 : w14.cell? ⟨gb178, 2, none⟩ = some (.slice A1_2 l1_2.length c1_2) := (blk_cell BK178.out 2).trans rfl; have hfz17_0 := blk_frozen BK178.out 0; have hfz17_1 := blk_frozen BK178.out 1; have hfz17_2 := blk_frozen BK178.out 2) | ((with_reducible refine gate_callee (f := 31) rfl ?_); refine goesL_ (some 9) rfl rfl Tryd.func31 (by kernel_rfl) rfl #[.slice A0_0 l0_0.length c0_0, .slice A1_0 l1_0.length c1_0] rfl (by (try simp only [List.map_toArray, List.map_cons, List.map_nil]); first | done | rfl | (simp only [List.length_drop, List.length_take]; rfl)) ?_; (with_reducible refine (ideal_same.calls k _ _ l0_0 _ _ l1_0 true _ ?side1 ?side2 ?side3 ?side4 A3.out).mono ?_); (case side1 => repeat (first | exact (Kd.C_below HR0_0.out HB.out) | (with_reducible refine Kd.C_alloc ?_ _) | (with_reducible refine Kd.C_drewN ?_ _) | (with_reducible refine Kd.C_drew ?_))); (case side2 => exact HC0_0.out); (case side3 => repeat (first | exact (Kd.C_below HR1_0.out HB.out) | (with_reducible refine Kd.C_alloc ?_ _) | (with_reducible refine Kd.C_drewN ?_ _) | (with_reducible refine Kd.C_drew ?_))); (case side4 => exact HC1_0.out); rintro e w' ⟨rfl, ⟨nd, rfl⟩⟩; refine ⟨_, rfl, ?_⟩) | (go_at_call 31; (with_reducible refine (ideal_same.calls k _ _ l0_1 _ _ l1_1 false _ ?side1 ?side2 ?side3 ?side4 A5.out).mono ?_); (case side1 => repeat (first | exact (Kd.C_below HR0_1.out (by repeat (first | (with_reducible first | exact HB.out | apply below_alloc | apply pw_below_drewN | apply below_drew1 | refine below_set ?_ GE177.out | refine below_set ?_ GE178.out) | exact HB.out))) | (with_reducible refine Kd.C_alloc ?_ _) | (with_reducible refine Kd.C_drewN ?_ _) | (with_reducible refine Kd.C_drew ?_))); (case side2 => exact HC0_1.out); (case side3 => repeat (first | exact (Kd.C_below HR1_1.out (by repeat (first | (with_reducible first | exact HB.out | apply below_alloc | apply pw_below_drewN | apply below_drew1 | refine below_set ?_ GE177.out | refine below_set ?_ GE178.out) | exact HB.out))) | (with_reducible refine Kd.C_alloc ?_ _) | (with_reducible refine Kd.C_drewN ?_ _) | (with_reducible refine Kd.C_drew ?_))); (case side4 => exact HC1_1.out); rintro e w' ⟨rfl, ⟨nd, rfl⟩⟩))
      go_ret
      exact ⟨by first | rfl | (simp [errW_none, errW_some] <;> rfl) | (simp [*, errW_none, errW_some] <;> rfl), by repeat (first | (with_reducible first | exact HB.out | apply below_alloc | apply pw_below_drewN | apply below_drew1 | refine below_set ?_ GE177.out | refine below_set ?_ GE178.out) | exact HB.out)⟩
  · replace c4 := Bool.eq_false_iff.mpr c4
    subst c4
    have H1 : (some false) = some r := by rw [if_neg (show ¬ (false = true) by decide)] at H; exact H
    clear H
    have H := H1
    clear H1
    obtain rfl := Option.some.inj H
    go_enter Tryd.func18, Tryd.ntmps18
    go_wp2_with (first | ((with_reducible refine gate_dst (N := 2) rfl ?_); refine box_event ?hg (N := 2) ?hd (cs := #[.slice A0_0 l0_0.length c0_0, .slice A0_1 l0_1.length c0_1, .slice A0_2 l0_2.length c0_2]) (t := 30) ?hr ?_; (case hd => rfl); (case hg => rfl); (case hr => first | (go_simp; done) | (go_simp; rfl)); intro gb177 hg w18 hbox hb; have n0_ := Aside0.mk (below_step (by repeat (first | (with_reducible first | exact HB.out | apply below_alloc | apply pw_below_drewN | apply below_drew1) | exact HB.out)) hb); have n1_ := Aside0.mk (hbox); have n2_ := Aside0.mk ((by rw [hg]; exact (below_size (by repeat (first | (with_reducible first | exact HB.out | apply below_alloc | apply pw_below_drewN | apply below_drew1) | exact HB.out))) : w.heap.size ≤ gb177)); have n3_ := Aside0.mk ((by rw [hg]; exact (below_size (by repeat (first | (with_reducible first | exact HB.out | apply below_alloc | apply pw_below_drewN | apply below_drew1) | exact HB.out))) : w.heap.size ≤ gb177)); clear HB; have HB := n0_; have BK177 := n1_; have GW177 := n2_; have GE177 := n3_; clear n0_ n1_ n2_ n3_; clear hb hbox hg) | ((with_reducible refine gate_dst (N := 3) rfl ?_); refine box_event ?hg (N := 3) ?hd (cs := #[.slice A1_0 l1_0.length c1_0, .slice A1_1 l1_1.length c1_1, .slice A1_2 l1_2.length c1_2]) (t := 30) ?hr ?_; (case hd => rfl); (case hg => rfl); (case hr => first | (go_simp; done) | (go_simp; rfl)); intro gb178 hg w19 hbox hb; have n0_ := ideal_Same.keepB BK177 hb; have n1_ := Aside0.mk (below_step (by repeat (first | (with_reducible first | exact HB.out | apply below_alloc | apply pw_below_drewN | apply below_drew1 | refine below_set ?_ GE177.out) | exact HB.out)) hb); have n2_ := Aside0.mk (hbox); have n3_ := Aside0.mk ((by rw [hg]; exact (below_size (by repeat (first | (with_reducible first | exact HB.out | apply below_alloc | apply pw_below_drewN | apply below_drew1 | refine below_set ?_ GE177.out) | exact HB.out))) : w.heap.size ≤ gb178)); have n4_ := Aside0.mk ((by rw [hg]; exact (below_size (by repeat (first | (with_reducible first | exact HB.out | apply below_alloc | apply pw_below_drewN | apply below_drew1 | refine below_set ?_ GE177.out) | exact HB.out))) : w.heap.size ≤ gb178)); have n5_ := ideal_Same.neL BK177 hg; have n6_ := ideal_Same.neG BK177 hg; clear BK177; clear HB; have BK177 := n0_; have HB := n1_; have BK178 := n2_; have GW178 := n3_; have GE178 := n4_; have NB177_178 := n5_; have NB178_177 := n6_; clear n0_ n1_ n2_ n3_ n4_ n5_ n6_; clear hb hbox hg; have hnb20 := NB177_178.out; have hnc20 := NB178_177.out; have hcz21_0 : w19.cell? ⟨gb177, 0, none⟩ = some (.slice A0_0 l0_0.length c0_0) := (blk_cell BK177.out 0).trans rfl; have hcz21_1 : w19.cell? ⟨gb177, 1, none⟩ = some (.slice A0_1 l0_1.length c0_1) := (blk_cell BK177.out 1).trans rfl; have hcz21_2 : w19.cell? ⟨gb177, 2, none⟩ = some (.slice A0_2 l0_2.length c0_2) := (blk_cell BK177.out 2).trans rfl; have hfz21_0 := blk_frozen BK177.out 0; have hfz21_1 := blk_frozen BK177.out 1; have hfz21_2 := blk_frozen BK177.out 2; have hcz22_0 : w19.cell? ⟨gb178, 0, none⟩ = some (.slice A1_0 l1_0.length c1_0) := (blk_cell BK178.out 0).trans rfl; have hcz22_1 : w19.cell? ⟨gb178, 1, none⟩ = some (.slice A1_1 l1_1.length c1_1) := (blk_cell BK178.out 1).trans rfl; have hcz22_2 : w19.cell? ⟨gb178, 2, none⟩ = some (.slice A1_2 l1_2.length c1_2) := (blk_cell BK178.out 2).trans rfl; have hfz22_0 := blk_frozen BK178.out 0; have hfz22_1 := blk_frozen BK178.out 1; have hfz22_2 := blk_frozen BK178.out 2) | ((with_reducible refine gate_callee (f := 31) rfl ?_); refine goesL_ (some 9) rfl rfl Tryd.func31 (by kernel_rfl) rfl #[.slice A0_0 l0_0.length c0_0, .slice A1_0 l1_0.length c1_0] rfl (by (try simp only [List.map_toArray, List.map_cons, List.map_nil]); first | done | rfl | (simp only [List.length_drop, List.length_take]; rfl)) ?_; (with_reducible refine (ideal_same.calls k _ _ l0_0 _ _ l1_0 false _ ?side1 ?side2 ?side3 ?side4 A3.out).mono ?_); (case side1 => repeat (first | exact (Kd.C_below HR0_0.out HB.out) | (with_reducible refine Kd.C_alloc ?_ _) | (with_reducible refine Kd.C_drewN ?_ _) | (with_reducible refine Kd.C_drew ?_))); (case side2 => exact HC0_0.out); (case side3 => repeat (first | exact (Kd.C_below HR1_0.out HB.out) | (with_reducible refine Kd.C_alloc ?_ _) | (with_reducible refine Kd.C_drewN ?_ _) | (with_reducible refine Kd.C_drew ?_))); (case side4 => exact HC1_0.out); rintro e w' ⟨rfl, ⟨nd, rfl⟩⟩; refine ⟨_, rfl, ?_⟩))
    go_ret
    exact ⟨by first | rfl | (simp [errW_none, errW_some] <;> rfl) | (simp [*, errW_none, errW_some] <;> rfl), by repeat (first | (with_reducible first | exact HB.out | apply below_alloc | apply pw_below_drewN | apply below_drew1 | refine below_set ?_ GE177.out | refine below_set ?_ GE178.out) | exact HB.out)⟩

theorem ideal_Alike.keepB {W0 W w1 : World} {g : Nat} {o : Obj} (h : Aside0 (W0.heap[g]? = some o)) (hb : Below W.heap.size W w1) (hs : W0.heap[g]? = some o → W.heap[g]? = some o := by intro h_; (with_reducible repeat (first | refine blk_drewN ?_ _ | refine blk_drew ?_ | refine blk_alloc ?_ _)); exact h_) : Aside0 (w1.heap[g]? = some o) := ⟨(hb.block g (blk_lt (hs h.out))).trans (hs h.out)⟩
theorem ideal_Alike.neL {W0 W : World} {g gb : Nat} {o : Obj} (h : Aside0 (W0.heap[g]? = some o)) (hg : gb = W.heap.size) (hs : W0.heap[g]? = some o → W.heap[g]? = some o := by intro h_; (with_reducible repeat (first | refine blk_drewN ?_ _ | refine blk_drew ?_ | refine blk_alloc ?_ _)); exact h_) : Aside0 (g ≠ gb) := ⟨by rw [hg]; exact Nat.ne_of_lt (blk_lt (hs h.out))⟩
theorem ideal_Alike.neG {W0 W : World} {g gb : Nat} {o : Obj} (h : Aside0 (W0.heap[g]? = some o)) (hg : gb = W.heap.size) (hs : W0.heap[g]? = some o → W.heap[g]? = some o := by intro h_; (with_reducible repeat (first | refine blk_drewN ?_ _ | refine blk_drew ?_ | refine blk_alloc ?_ _)); exact h_) : Aside0 (gb ≠ g) := ⟨by rw [hg]; exact Nat.ne_of_gt (blk_lt (hs h.out))⟩
/-! ### ideal_Alike: function 19 -/
def ideal_Alike.f (k : Nat) (l0_0 : List (List Int)) (l0_1 : List (List (List Int))) (l1_0 : List (List Int)) (l1_1 : List (List (List Int))) : Option (Bool) := (ideal_same.f k l0_0 l1_0).bind fun t184 => (if t184 = true then ((slices_EqualFunc_uint32_uint32_uint32_uint32_32_f31.f k l0_1 l1_1 0).bind fun t185 => (some t185)) else (some false))
theorem ideal_Alike.mono : ∀ a0 a1 a2 a3 k, LeO (ideal_Alike.f k a0 a1 a2 a3) (ideal_Alike.f (k + 1) a0 a1 a2 a3) := by
  intro a0 a1 a2 a3 k
  unfold ideal_Alike.f
  repeat' first
      | (with_reducible exact ideal_same.mono _ _ _)
      | (with_reducible exact slices_EqualFunc_uint32_uint32_uint32_uint32_32_f31.mono _ _ _ _)
      | (with_reducible exact LeO.refl _)
      | (with_reducible exact LeO.none _)
      | (with_reducible refine LeO.ite ?_ ?_)
      | (with_reducible refine LeO.bind ?_ (fun _ => ?_))
      | exact ideal_same.mono _ _ _
      | exact slices_EqualFunc_uint32_uint32_uint32_uint32_32_f31.mono _ _ _ _
      | exact LeO.none _
      | refine LeO.ite ?_ ?_
      | refine LeO.bind ?_ (fun _ => ?_)
set_option maxHeartbeats 8000000 in
set_option maxRecDepth 100000 in
theorem ideal_Alike.calls (k : Nat) (A0_0 : Option Addr) (c0_0 : Nat) (l0_0 : List (List Int)) (A0_1 : Option Addr) (c0_1 : Nat) (l0_1 : List (List (List Int))) (A1_0 : Option Addr) (c1_0 : Nat) (l1_0 : List (List Int)) (A1_1 : Option Addr) (c1_1 : Nat) (l1_1 : List (List (List Int))) (r : Bool) (w : World) (hr0_0 : Kd.C (Kd.slice 37 (Kd.int .u32)) w A0_0 l0_0.length l0_0) (hc0_0 : l0_0.length ≤ c0_0) (hr0_1 : Kd.C (Kd.slice 35 (Kd.slice 37 (Kd.int .u32))) w A0_1 l0_1.length l0_1) (hc0_1 : l0_1.length ≤ c0_1) (hr1_0 : Kd.C (Kd.slice 37 (Kd.int .u32)) w A1_0 l1_0.length l1_0) (hc1_0 : l1_0.length ≤ c1_0) (hr1_1 : Kd.C (Kd.slice 35 (Kd.slice 37 (Kd.int .u32))) w A1_1 l1_1.length l1_1) (hc1_1 : l1_1.length ≤ c1_1) (h : ideal_Alike.f k l0_0 l0_1 l1_0 l1_1 = some r) :
    Calls Tryd.prog 19 #[.agg #[.slice A0_0 l0_0.length c0_0, .slice A0_1 l0_1.length c0_1], .agg #[.slice A1_0 l1_0.length c1_0, .slice A1_1 l1_1.length c1_1]] w fun e w' => e = .returned (.bool r) ∧ Below w.heap.size w w' := by
  have hu25 := Tryd.underlying25
  have HR0_0 := Aside0.mk hr0_0
  have HC0_0 := Aside0.mk hc0_0
  clear hr0_0 hc0_0
  have HR0_1 := Aside0.mk hr0_1
  have HC0_1 := Aside0.mk hc0_1
  clear hr0_1 hc0_1
  have HR1_0 := Aside0.mk hr1_0
  have HC1_0 := Aside0.mk hc1_0
  clear hr1_0 hc1_0
  have HR1_1 := Aside0.mk hr1_1
  have HC1_1 := Aside0.mk hc1_1
  clear hr1_1 hc1_1
  have HB := Aside0.mk (Below.refl w.heap.size w)
  have H : ((ideal_same.f k l0_0 l1_0).bind fun t184 => (if t184 = true then ((slices_EqualFunc_uint32_uint32_uint32_uint32_32_f31.f k l0_1 l1_1 0).bind fun t185 => (some t185)) else (some false))) = some r := h
  clear h
  replace H := Option.bind_eq_some_iff.mp H
  obtain ⟨t184, A30, H⟩ := H
  replace H : (if t184 = true then ((slices_EqualFunc_uint32_uint32_uint32_uint32_32_f31.f k l0_1 l1_1 0).bind fun t185 => (some t185)) else (some false)) = some r := H
  have A3 := Aside0.mk A30
  clear A30
  by_cases c4 : t184 = true
  · subst c4
    have H1 : ((slices_EqualFunc_uint32_uint32_uint32_uint32_32_f31.f k l0_1 l1_1 0).bind fun t185 => (some t185)) = some r := by rw [if_pos rfl] at H; exact H
    clear H
    have H := H1
    clear H1
    replace H := Option.bind_eq_some_iff.mp H
    obtain ⟨t185, A50, H⟩ := H
    replace H : (some t185) = some r := H
    have A5 := Aside0.mk A50
    clear A50
    obtain rfl := Option.some.inj H
    go_enter Tryd.func19, Tryd.ntmps19
    go_wp2_with (first | ((with_reducible refine gate_dst (N := 2) rfl ?_); refine box_event ?hg (N := 2) ?hd (cs := #[.slice A0_0 l0_0.length c0_0, .slice A0_1 l0_1.length c0_1]) (t := 25) ?hr ?_; (case hd => rfl); (case hg => rfl); (case hr => first | (go_simp; done) | (go_simp; rfl)); intro gb182 hg w6 hbox hb; have n0_ := Aside0.mk (below_step (by repeat (first | (with_reducible first | exact HB.out | apply below_alloc | apply pw_below_drewN | apply below_drew1) | exact HB.out)) hb); have n1_ := Aside0.mk (hbox); have n2_ := Aside0.mk ((by rw [hg]; exact (below_size (by repeat (first | (with_reducible first | exact HB.out | apply below_alloc | apply pw_below_drewN | apply below_drew1) | exact HB.out))) : w.heap.size ≤ gb182)); have n3_ := Aside0.mk ((by rw [hg]; exact (below_size (by repeat (first | (with_reducible first | exact HB.out | apply below_alloc | apply pw_below_drewN | apply below_drew1) | exact HB.out))) : w.heap.size ≤ gb182)); clear HB; have HB := n0_; have BK182 := n1_; have GW182 := n2_; have GE182 := n3_; clear n0_ n1_ n2_ n3_; clear hb hbox hg) | ((with_reducible refine gate_dst (N := 3) rfl ?_); refine box_event ?hg (N := 3) ?hd (cs := #[.slice A1_0 l1_0.length c1_0, .slice A1_1 l1_1.length c1_1]) (t := 25) ?hr ?_; (case hd => rfl); (case hg => rfl); (case hr => first | (go_simp; done) | (go_simp; rfl)); intro gb183 hg w7 hbox hb; have n0_ := ideal_Alike.keepB BK182 hb; have n1_ := Aside0.mk (below_step (by repeat (first | (with_reducible first | exact HB.out | apply below_alloc | apply pw_below_drewN | apply below_drew1 | refine below_set ?_ GE182.out) | exact HB.out)) hb); have n2_ := Aside0.mk (hbox); have n3_ := Aside0.mk ((by rw [hg]; exact (below_size (by repeat (first | (with_reducible first | exact HB.out | apply below_alloc | apply pw_below_drewN | apply below_drew1 | refine below_set ?_ GE182.out) | exact HB.out))) : w.heap.size ≤ gb183)); have n4_ := Aside0.mk ((by rw [hg]; exact (below_size (by repeat (first | (with_reducible first | exact HB.out | apply below_alloc | apply pw_below_drewN | apply below_drew1 | refine below_set ?_ GE182.out) | exact HB.out))) : w.heap.size ≤ gb183)); have n5_ := ideal_Alike.neL BK182 hg; have n6_ := ideal_Alike.neG BK182 hg; clear BK182; clear HB; have BK182 := n0_; have HB := n1_; have BK183 := n2_; have GW183 := n3_; have GE183 := n4_; have NB182_183 := n5_; have NB183_182 := n6_; clear n0_ n1_ n2_ n3_ n4_ n5_ n6_; clear hb hbox hg; have hnb8 := NB182_183.out; have hnc8 := NB183_182.out; have hcz9_0 : w7.cell? ⟨gb182, 0, none⟩ = some (.slice A0_0 l0_0.length c0_0) := (blk_cell BK182.out 0).trans rfl; have hcz9_1 : w7.cell? ⟨gb182, 1, none⟩ = some (.slice A0_1 l0_1.length c0_1) := (blk_cell BK182.out 1).trans rfl; have hfz9_0 := blk_frozen BK182.out 0; have hfz9_1 := blk_frozen BK182.out 1; have hcz10_0 : w7.cell? ⟨gb183, 0, none⟩ = some (.slice A1_0 l1_0.length c1_0) := (blk_cell BK183.out 0).trans rfl; have hcz10_1 : w7.cell? ⟨gb183, 1, none⟩ = some (.slice A1_1 l1_1.length c1_1) := (blk_cell BK183.out 1).trans rfl; have hfz10_0 := blk_frozen BK183.out 0; have hfz10_1 := blk_frozen BK183.out 1) | ((with_reducible refine gate_callee (f := 31) rfl ?_); refine goesL_ (some 9) rfl rfl Tryd.func31 (by kernel_rfl) rfl #[.slice A0_0 l0_0.length c0_0, .slice A1_0 l1_0.length c1_0] rfl (by (try simp only [List.map_toArray, List.map_cons, List.map_nil]); first | done | rfl | (simp only [List.length_drop, List.length_take]; rfl)) ?_; (with_reducible refine (ideal_same.calls k _ _ l0_0 _ _ l1_0 true _ ?side1 ?side2 ?side3 ?side4 A3.out).mono ?_); (case side1 => repeat (first | exact (Kd.C_below HR0_0.out HB.out) | (with_reducible refine Kd.C_alloc ?_ _) | (with_reducible refine Kd.C_drewN ?_ _) | (with_reducible refine Kd.C_drew ?_))); (case side2 => exact HC0_0.out); (case side3 => repeat (first | exact (Kd.C_below HR1_0.out HB.out) | (with_reducible refine Kd.C_alloc ?_ _) | (with_reducible refine Kd.C_drewN ?_ _) | (with_reducible refine Kd.C_drew ?_))); (case side4 => exact HC1_0.out); rintro e w' ⟨rfl, ⟨nd, rfl⟩⟩; refine ⟨_, rfl, ?_⟩) | (go_at_call 32; (with_reducible refine (slices_EqualFunc_uint32_uint32_uint32_uint32_32_f31.calls k _ _ l0_1 _ _ l1_1 0 t185 _ ?side1 ?side2 ?side3 ?side4 A5.out).mono ?_); (case side1 => repeat (first | exact (Kd.C_below HR0_1.out (by repeat (first | (with_reducible first | exact HB.out | apply below_alloc | apply pw_below_drewN | apply below_drew1 | refine below_set ?_ GE182.out | refine below_set ?_ GE183.out) | exact HB.out))) | (with_reducible refine Kd.C_alloc ?_ _) | (with_reducible refine Kd.C_drewN ?_ _) | (with_reducible refine Kd.C_drew ?_))); (case side2 => exact HC0_1.out); (case side3 => repeat (first | exact (Kd.C_below HR1_1.out (by repeat (first | (with_reducible first | exact HB.out | apply below_alloc | apply pw_below_drewN | apply below_drew1 | refine below_set ?_ GE182.out | refine below_set ?_ GE183.out) | exact HB.out))) | (with_reducible refine Kd.C_alloc ?_ _) | (with_reducible refine Kd.C_drewN ?_ _) | (with_reducible refine Kd.C_drew ?_))); (case side4 => exact HC1_1.out); rintro e w' ⟨rfl, ⟨nd, rfl⟩⟩))
    go_ret
    exact ⟨by first | rfl | (simp [errW_none, errW_some] <;> rfl) | (simp [*, errW_none, errW_some] <;> rfl), by repeat (first | (with_reducible first | exact HB.out | apply below_alloc | apply pw_below_drewN | apply below_drew1 | refine below_set ?_ GE182.out | refine below_set ?_ GE183.out) | exact HB.out)⟩
  · replace c4 := Bool.eq_false_iff.mpr c4
    subst c4
    have H1 : (some false) = some r := by rw [if_neg (show ¬ (false = true) by decide)] at H; exact H
    clear H
    have H := H1
    clear H1
    obtain rfl := Option.some.inj H
    go_enter Tryd.func19, Tryd.ntmps19
    go_wp2_with (first | ((with_reducible refine gate_dst (N := 2) rfl ?_); refine box_event ?hg (N := 2) ?hd (cs := #[.slice A0_0 l0_0.length c0_0, .slice A0_1 l0_1.length c0_1]) (t := 25) ?hr ?_; (case hd => rfl); (case hg => rfl); (case hr => first | (go_simp; done) | (go_simp; rfl)); intro gb182 hg w11 hbox hb; have n0_ := Aside0.mk (below_step (by repeat (first | (with_reducible first | exact HB.out | apply below_alloc | apply pw_below_drewN | apply below_drew1) | exact HB.out)) hb); have n1_ := Aside0.mk (hbox); have n2_ := Aside0.mk ((by rw [hg]; exact (below_size (by repeat (first | (with_reducible first | exact HB.out | apply below_alloc | apply pw_below_drewN | apply below_drew1) | exact HB.out))) : w.heap.size ≤ gb182)); have n3_ := Aside0.mk ((by rw [hg]; exact (below_size (by repeat (first | (with_reducible first | exact HB.out | apply below_alloc | apply pw_below_drewN | apply below_drew1) | exact HB.out))) : w.heap.size ≤ gb182)); clear HB; have HB := n0_; have BK182 := n1_; have GW182 := n2_; have GE182 := n3_; clear n0_ n1_ n2_ n3_; clear hb hbox hg) | ((with_reducible refine gate_dst (N := 3) rfl ?_); refine box_event ?hg (N := 3) ?hd (cs := #[.slice A1_0 l1_0.length c1_0, .slice A1_1 l1_1.length c1_1]) (t := 25) ?hr ?_; (case hd => rfl); (case hg => rfl); (case hr => first | (go_simp; done) | (go_simp; rfl)); intro gb183 hg w12 hbox hb; have n0_ := ideal_Alike.keepB BK182 hb; have n1_ := Aside0.mk (below_step (by repeat (first | (with_reducible first | exact HB.out | apply below_alloc | apply pw_below_drewN | apply below_drew1 | refine below_set ?_ GE182.out) | exact HB.out)) hb); have n2_ := Aside0.mk (hbox); have n3_ := Aside0.mk ((by rw [hg]; exact (below_size (by repeat (first | (with_reducible first | exact HB.out | apply below_alloc | apply pw_below_drewN | apply below_drew1 | refine below_set ?_ GE182.out) | exact HB.out))) : w.heap.size ≤ gb183)); have n4_ := Aside0.mk ((by rw [hg]; exact (below_size (by repeat (first | (with_reducible first | exact HB.out | apply below_alloc | apply pw_below_drewN | apply below_drew1 | refine below_set ?_ GE182.out) | exact HB.out))) : w.heap.size ≤ gb183)); have n5_ := ideal_Alike.neL BK182 hg; have n6_ := ideal_Alike.neG BK182 hg; clear BK182; clear HB; have BK182 := n0_; have HB := n1_; have BK183 := n2_; have GW183 := n3_; have GE183 := n4_; have NB182_183 := n5_; have NB183_182 := n6_; clear n0_ n1_ n2_ n3_ n4_ n5_ n6_; clear hb hbox hg; have hnb13 := NB182_183.out; have hnc13 := NB183_182.out; have hcz14_0 : w12.cell? ⟨gb182, 0, none⟩ = some (.slice A0_0 l0_0.length c0_0) := (blk_cell BK182.out 0).trans rfl; have hcz14_1 : w12.cell? ⟨gb182, 1, none⟩ = some (.slice A0_1 l0_1.length c0_1) := (blk_cell BK182.out 1).trans rfl; have hfz14_0 := blk_frozen BK182.out 0; have hfz14_1 := blk_frozen BK182.out 1; have hcz15_0 : w12.cell? ⟨gb183, 0, none⟩ = some (.slice A1_0 l1_0.length c1_0) := (blk_cell BK183.out 0).trans rfl; have hcz15_1 : w12.cell? ⟨gb183, 1, none⟩ = some (.slice A1_1 l1_1.length c1_1) := (blk_cell BK183.out 1).trans rfl; have hfz15_0 := blk_frozen BK183.out 0; have hfz15_1 := blk_frozen BK183.out 1) | ((with_reducible refine gate_callee (f := 31) rfl ?_); refine goesL_ (some 9) rfl rfl Tryd.func31 (by kernel_rfl) rfl #[.slice A0_0 l0_0.length c0_0, .slice A1_0 l1_0.length c1_0] rfl (by (try simp only [List.map_toArray, List.map_cons, List.map_nil]); first | done | rfl | (simp only [List.length_drop, List.length_take]; rfl)) ?_; (with_reducible refine (ideal_same.calls k _ _ l0_0 _ _ l1_0 false _ ?side1 ?side2 ?side3 ?side4 A3.out).mono ?_); (case side1 => repeat (first | exact (Kd.C_below HR0_0.out HB.out) | (with_reducible refine Kd.C_alloc ?_ _) | (with_reducible refine Kd.C_drewN ?_ _) | (with_reducible refine Kd.C_drew ?_))); (case side2 => exact HC0_0.out); (case side3 => repeat (first | exact (Kd.C_below HR1_0.out HB.out) | (with_reducible refine Kd.C_alloc ?_ _) | (with_reducible refine Kd.C_drewN ?_ _) | (with_reducible refine Kd.C_drew ?_))); (case side4 => exact HC1_0.out); rintro e w' ⟨rfl, ⟨nd, rfl⟩⟩; refine ⟨_, rfl, ?_⟩))
    go_ret
    exact ⟨by first | rfl | (simp [errW_none, errW_some] <;> rfl) | (simp [*, errW_none, errW_some] <;> rfl), by repeat (first | (with_reducible first | exact HB.out | apply below_alloc | apply pw_below_drewN | apply below_drew1 | refine below_set ?_ GE182.out | refine below_set ?_ GE183.out) | exact HB.out)⟩

/-! ### offertorylaw25_awake: function 9 -/
/-! ### a fixed fact -/
theorem lit1 {w : World} {g : Nat} {x : Int} (h : w.heap[g]? = some (.cells #[.int .u32 x] 37 (0, 0))) : (Kd.int .u32).C w (some ⟨g, 0, none⟩) 1 [x] := by
  refine ⟨rfl, by omega, fun _ => ⟨_, rfl, ?_⟩⟩
  intro j p hp
  match j, hp with
  | 0, hp =>
    cases hp
    refine ⟨[.int .u32 x], rfl, rfl, ?_⟩
    intro i u hu
    match i, hu with
    | 0, hu => cases hu; exact (blk_cell h 0).trans rfl
theorem lit2 {α : Type} (e : Nat) (d : Kd α) {w : World} {g t : Nat} {A1 A2 : Option Addr} {c1 c2 : Nat} {x1 x2 : List α} (h : w.heap[g]? = some (.cells #[.slice A1 x1.length c1, .slice A2 x2.length c2] t (0, 0))) (h1 : d.C w A1 x1.length x1) (l1 : x1.length ≤ c1) (h2 : d.C w A2 x2.length x2) (l2 : x2.length ≤ c2) : (Kd.slice e d).C w (some ⟨g, 0, none⟩) 2 [x1, x2] := by
  refine ⟨rfl, by omega, fun _ => ⟨_, rfl, ?_⟩⟩
  intro j p hp
  match j, hp with
  | 0, hp =>
    cases hp
    refine ⟨[.slice A1 x1.length c1], rfl, ⟨A1, c1, rfl, l1, h1⟩, ?_⟩
    intro i u hu
    match i, hu with
    | 0, hu => cases hu; exact (blk_cell h 0).trans rfl
  | 1, hp =>
    cases hp
    refine ⟨[.slice A2 x2.length c2], rfl, ⟨A2, c2, rfl, l2, h2⟩, ?_⟩
    intro i u hu
    match i, hu with
    | 0, hu => cases hu; exact (blk_cell h 1).trans rfl
theorem C_nilA {α : Type} (d : Kd α) (w : World) : d.C w none ([] : List α).length [] := Kd.C_nil d w
theorem aw_s1 : ideal_See.f 30 [[1], [2]] [[5], [6]] [[[], [9]], [[], []]] 3 3 = some ([[15], [4294967295]], [[5], [6]], [[[], []], [[], []]], 0) := by decide +kernel
theorem aw_t : ideal_Turn.f 30 [[1], [2]] [[3], [0]] [[5], [6]] [[[], [9]], [[], []]] 3 3 = some ([[5], [6]], [[[], [7]], [[], []]], 0) := by decide +kernel
theorem aw_s2 : ideal_See.f 30 [[3], [0]] [[5], [6]] [[[], [7]], [[], []]] 3 3 = some ([[15], [4294967295]], [[5], [6]], [[[], []], [[], []]], 0) := by decide +kernel
theorem aw_so : ideal_Sound.f 30 [[5], [6]] [[[], [9]], [[], []]] 2 1 = some true := by decide +kernel
theorem aw_sa : ideal_Same.f 30 [[15], [4294967295]] [[5], [6]] [[[], []], [[], []]] [[15], [4294967295]] [[5], [6]] [[[], []], [[], []]] = some true := by decide +kernel
theorem aw_al : ideal_Alike.f 30 [[5], [6]] [[[], [9]], [[], []]] [[5], [6]] [[[], [7]], [[], []]] = some false := by decide +kernel
set_option maxHeartbeats 16000000 in
set_option maxRecDepth 100000 in
theorem awake_w (w : World) (hT : Tab w) : Calls Tryd.prog 9 #[] w fun e w' => e = .returned (.bool true) ∧ Below w.heap.size w w' := by
  have hu25 := Tryd.underlying25
  have hu30 := Tryd.underlying30
  have HT := Aside0.mk hT
  have HB := Aside0.mk (Below.refl w.heap.size w)
  clear hT
  go_enter Tryd.func9, Tryd.ntmps9
  go_upto_region 2 with (first | ((with_reducible refine gate_dst (N := 8) rfl ?_); refine row_event ?hg (n := 1) (cs := #[.int .u32 5]) (t := 37) ?hr ?_; (case hg => rfl); (case hr => first | (go_simp; done) | (go_simp; rfl)); intro g8 hg w8 hbox hb; have HB := Aside0.mk (below_step HB.out hb); have C8 : Aside0 (Kd.C (Kd.int .u32) w8 (some ⟨g8, 0, none⟩) 1 [5]) := ⟨lit1 hbox⟩; clear hg hbox hb) | ((with_reducible refine gate_dst (N := 9) rfl ?_); refine row_event ?hg (n := 1) (cs := #[.int .u32 6]) (t := 37) ?hr ?_; (case hg => rfl); (case hr => first | (go_simp; done) | (go_simp; rfl)); intro g9 hg w9 hbox hb; have HB := Aside0.mk (below_step HB.out hb); have C8 := Aside0.mk (Kd.C_below C8.out hb); have C9 : Aside0 (Kd.C (Kd.int .u32) w9 (some ⟨g9, 0, none⟩) 1 [6]) := ⟨lit1 hbox⟩; clear hg hbox hb) | ((with_reducible refine gate_dst (N := 10) rfl ?_); refine row_event ?hg (n := 2) (cs := #[.slice (some ⟨g8, 0, none⟩) 1 1, .slice (some ⟨g9, 0, none⟩) 1 1]) (t := 35) ?hr ?_; (case hg => rfl); (case hr => first | (go_simp; done) | (go_simp; rfl)); intro g10 hg w10 hbox hb; have HB := Aside0.mk (below_step HB.out hb); have C8 := Aside0.mk (Kd.C_below C8.out hb); have C9 := Aside0.mk (Kd.C_below C9.out hb); have C10 : Aside0 (Kd.C (Kd.slice 37 (Kd.int .u32)) w10 (some ⟨g10, 0, none⟩) 2 [[5], [6]]) := ⟨lit2 37 (Kd.int .u32) (x1 := [5]) (x2 := [6]) hbox C8.out (Nat.le_refl _) C9.out (Nat.le_refl _)⟩; clear hg hbox hb) | ((with_reducible refine gate_dst (N := 11) rfl ?_); refine row_event ?hg (n := 1) (cs := #[.int .u32 9]) (t := 37) ?hr ?_; (case hg => rfl); (case hr => first | (go_simp; done) | (go_simp; rfl)); intro g11 hg w11 hbox hb; have HB := Aside0.mk (below_step HB.out hb); have C8 := Aside0.mk (Kd.C_below C8.out hb); have C9 := Aside0.mk (Kd.C_below C9.out hb); have C10 := Aside0.mk (Kd.C_below C10.out hb); have C11 : Aside0 (Kd.C (Kd.int .u32) w11 (some ⟨g11, 0, none⟩) 1 [9]) := ⟨lit1 hbox⟩; clear hg hbox hb) | ((with_reducible refine gate_dst (N := 12) rfl ?_); refine row_event ?hg (n := 2) (cs := #[.slice none 0 0, .slice (some ⟨g11, 0, none⟩) 1 1]) (t := 35) ?hr ?_; (case hg => rfl); (case hr => first | (go_simp; done) | (go_simp; rfl)); intro g12 hg w12 hbox hb; have HB := Aside0.mk (below_step HB.out hb); have C8 := Aside0.mk (Kd.C_below C8.out hb); have C9 := Aside0.mk (Kd.C_below C9.out hb); have C10 := Aside0.mk (Kd.C_below C10.out hb); have C11 := Aside0.mk (Kd.C_below C11.out hb); have C12 : Aside0 (Kd.C (Kd.slice 37 (Kd.int .u32)) w12 (some ⟨g12, 0, none⟩) 2 [[], [9]]) := ⟨lit2 37 (Kd.int .u32) (x1 := ([] : List Int)) (x2 := [9]) hbox (C_nilA _ _) (Nat.le_refl _) C11.out (Nat.le_refl _)⟩; clear hg hbox hb) | ((with_reducible refine gate_dst (N := 13) rfl ?_); refine row_event ?hg (n := 2) (cs := #[.slice none 0 0, .slice none 0 0]) (t := 35) ?hr ?_; (case hg => rfl); (case hr => first | (go_simp; done) | (go_simp; rfl)); intro g13 hg w13 hbox hb; have HB := Aside0.mk (below_step HB.out hb); have C8 := Aside0.mk (Kd.C_below C8.out hb); have C9 := Aside0.mk (Kd.C_below C9.out hb); have C10 := Aside0.mk (Kd.C_below C10.out hb); have C11 := Aside0.mk (Kd.C_below C11.out hb); have C12 := Aside0.mk (Kd.C_below C12.out hb); have C13 : Aside0 (Kd.C (Kd.slice 37 (Kd.int .u32)) w13 (some ⟨g13, 0, none⟩) 2 [[], []]) := ⟨lit2 37 (Kd.int .u32) (x1 := ([] : List Int)) (x2 := ([] : List Int)) hbox (C_nilA _ _) (Nat.le_refl _) (C_nilA _ _) (Nat.le_refl _)⟩; clear hg hbox hb) | ((with_reducible refine gate_dst (N := 14) rfl ?_); refine row_event ?hg (n := 2) (cs := #[.slice (some ⟨g12, 0, none⟩) 2 2, .slice (some ⟨g13, 0, none⟩) 2 2]) (t := 22) ?hr ?_; (case hg => rfl); (case hr => first | (go_simp; done) | (go_simp; rfl)); intro g14 hg w14 hbox hb; have HB := Aside0.mk (below_step HB.out hb); have C8 := Aside0.mk (Kd.C_below C8.out hb); have C9 := Aside0.mk (Kd.C_below C9.out hb); have C10 := Aside0.mk (Kd.C_below C10.out hb); have C11 := Aside0.mk (Kd.C_below C11.out hb); have C12 := Aside0.mk (Kd.C_below C12.out hb); have C13 := Aside0.mk (Kd.C_below C13.out hb); have C14 : Aside0 (Kd.C (Kd.slice 35 (Kd.slice 37 (Kd.int .u32))) w14 (some ⟨g14, 0, none⟩) 2 [[[], [9]], [[], []]]) := ⟨lit2 35 (Kd.slice 37 (Kd.int .u32)) (x1 := [[], [9]]) (x2 := [[], []]) hbox C12.out (Nat.le_refl _) C13.out (Nat.le_refl _)⟩; clear hg hbox hb) | ((with_reducible refine gate_dst (N := 1) rfl ?_); refine box_event ?hg (N := 1) ?hd (cs := #[.slice none 0 0, .slice none 0 0]) (t := 25) ?hr ?_; (case hd => rfl); (case hg => rfl); (case hr => first | (go_simp; done) | (go_simp; rfl)); intro b1 hg w15 hbox hb; have HGE := Aside0.mk (Nat.le_of_eq hg.symm); have HBX := Aside0.mk hb; have HBO := Aside0.mk hbox; clear hg hb hbox; obtain ⟨y0, y1, y2, y3⟩ := cells2 HBO.out))
  clear C8 C9 C11 C12 C13
  refine code_gen (fun W => Below w.heap.size w W ∧ Kd.C (Kd.slice 37 (Kd.int .u32)) W (some ⟨g10, 0, none⟩) 2 [[5], [6]] ∧ Kd.C (Kd.slice 35 (Kd.slice 37 (Kd.int .u32))) W (some ⟨g14, 0, none⟩) 2 [[[], [9]], [[], []]] ∧ W.heap[b1]? = some (.cells #[.slice (some ⟨g10, 0, none⟩) 2 2, .slice (some ⟨g14, 0, none⟩) 2 2] 25 (0, 0))) ⟨below_step HB.out (below_set (below_set HBX.out HGE.out) HGE.out), Kd.C_below C10.out (below_set (below_set HBX.out HGE.out) HGE.out), Kd.C_below C14.out (below_set (below_set HBX.out HGE.out) HGE.out), (blk_put (blk_put HBO.out 0 (.slice (some ⟨g10, 0, none⟩) 2 2) rfl) 1 (.slice (some ⟨g14, 0, none⟩) 2 2) rfl)⟩ ?_
  clear HGE HBX HBO y0 y1 y2 y3
  rintro w16 ⟨h0_, h1_, h2_, h3_⟩
  replace HB := Aside0.mk h0_
  replace C10 := Aside0.mk h1_
  replace C14 := Aside0.mk h2_
  have X1 := Aside0.mk h3_
  clear h0_ h1_ h2_ h3_
  go_upto_region 3 with (first | ((with_reducible refine gate_dst (N := 17) rfl ?_); refine row_event ?hg (n := 1) (cs := #[.int .u32 1]) (t := 37) ?hr ?_; (case hg => rfl); (case hr => first | (go_simp; done) | (go_simp; rfl)); intro p1 hg wp1 hbox hb; have HB := Aside0.mk (below_step HB.out hb); have C10 := Aside0.mk (Kd.C_below C10.out hb); have C14 := Aside0.mk (Kd.C_below C14.out hb); have X1 := Aside0.mk (blk_below X1.out hb); have Cp1 : Aside0 (Kd.C (Kd.int .u32) wp1 (some ⟨p1, 0, none⟩) 1 [1]) := ⟨lit1 hbox⟩; clear hg hbox hb) | ((with_reducible refine gate_dst (N := 18) rfl ?_); refine row_event ?hg (n := 1) (cs := #[.int .u32 2]) (t := 37) ?hr ?_; (case hg => rfl); (case hr => first | (go_simp; done) | (go_simp; rfl)); intro p2 hg wp2 hbox hb; have HB := Aside0.mk (below_step HB.out hb); have C10 := Aside0.mk (Kd.C_below C10.out hb); have C14 := Aside0.mk (Kd.C_below C14.out hb); have X1 := Aside0.mk (blk_below X1.out hb); have Cp1 := Aside0.mk (Kd.C_below Cp1.out hb); have Cp2 : Aside0 (Kd.C (Kd.int .u32) wp2 (some ⟨p2, 0, none⟩) 1 [2]) := ⟨lit1 hbox⟩; clear hg hbox hb) | ((with_reducible refine gate_dst (N := 19) rfl ?_); refine row_event ?hg (n := 2) (cs := #[.slice (some ⟨p1, 0, none⟩) 1 1, .slice (some ⟨p2, 0, none⟩) 1 1]) (t := 35) ?hr ?_; (case hg => rfl); (case hr => first | (go_simp; done) | (go_simp; rfl)); intro p3 hg wp3 hbox hb; have HB := Aside0.mk (below_step HB.out hb); have C10 := Aside0.mk (Kd.C_below C10.out hb); have C14 := Aside0.mk (Kd.C_below C14.out hb); have X1 := Aside0.mk (blk_below X1.out hb); have Cp1 := Aside0.mk (Kd.C_below Cp1.out hb); have Cp2 := Aside0.mk (Kd.C_below Cp2.out hb); have Cp3 : Aside0 (Kd.C (Kd.slice 37 (Kd.int .u32)) wp3 (some ⟨p3, 0, none⟩) 2 [[1], [2]]) := ⟨lit2 37 (Kd.int .u32) (x1 := [1]) (x2 := [2]) hbox Cp1.out (Nat.le_refl _) Cp2.out (Nat.le_refl _)⟩; clear hg hbox hb; obtain ⟨x0, x1, x2, x3⟩ := cells2 X1.out) | (go_at_call 12; (refine (ideal_See.calls 30 (some ⟨p3, 0, none⟩) 2 [[1], [2]] (some ⟨g10, 0, none⟩) 2 [[5], [6]] (some ⟨g14, 0, none⟩) 2 [[[], [9]], [[], []]] 3 3 [[15], [4294967295]] [[5], [6]] [[[], []], [[], []]] 0 _ Cp3.out (Nat.le_refl _) C10.out (Nat.le_refl _) C14.out (Nat.le_refl _) (HT.out.step HB.out) aw_s1).mono ?_); rintro e ws1 ⟨v0, v1, v2, rfl, hR0, hR1, hR2, hb⟩; clear x0 x1 x2 x3; have HB := Aside0.mk (below_step HB.out hb); have C10 := Aside0.mk (Kd.C_below C10.out hb); have C14 := Aside0.mk (Kd.C_below C14.out hb); have X1 := Aside0.mk (blk_below X1.out hb); have Cp1 := Aside0.mk (Kd.C_below Cp1.out hb); have Cp2 := Aside0.mk (Kd.C_below Cp2.out hb); have Cp3 := Aside0.mk (Kd.C_below Cp3.out hb); obtain ⟨A0, dA0, ev0⟩ := Kd.R_slice hR0; rw [show ([[15], [4294967295]] : List (List Int)).length = 2 from rfl] at ev0; subst ev0; obtain ⟨adG, _, _, eG, _⟩ := at_V (Kd.R_reads' hR0).2.2 0 (by decide) (by decide); subst eG; obtain ⟨gG, rfl⟩ := Kd.R_head hR0; have VA0 : Aside0 (Kd.C (Kd.slice 37 (Kd.int .u32)) ws1 (some ⟨gG, 0, none⟩) 2 [[15], [4294967295]]) := ⟨(Kd.R_reads' hR0).2.2⟩; have LA0 : 2 ≤ dA0 := (Kd.R_reads' hR0).2.1; have LA0 := Aside0.mk LA0; obtain ⟨A1, dA1, ev1⟩ := Kd.R_slice hR1; rw [show ([[5], [6]] : List (List Int)).length = 2 from rfl] at ev1; subst ev1; have VA1 : Aside0 (Kd.C (Kd.slice 37 (Kd.int .u32)) ws1 A1 2 [[5], [6]]) := ⟨(Kd.R_reads' hR1).2.2⟩; have LA1 : 2 ≤ dA1 := (Kd.R_reads' hR1).2.1; have LA1 := Aside0.mk LA1; obtain ⟨A2, dA2, ev2⟩ := Kd.R_slice hR2; rw [show ([[[], []], [[], []]] : List (List (List Int))).length = 2 from rfl] at ev2; subst ev2; have VA2 : Aside0 (Kd.C (Kd.slice 35 (Kd.slice 37 (Kd.int .u32))) ws1 A2 2 [[[], []], [[], []]]) := ⟨(Kd.R_reads' hR2).2.2⟩; have LA2 : 2 ≤ dA2 := (Kd.R_reads' hR2).2.1; have LA2 := Aside0.mk LA2; clear hR0 hR1 hR2 hb) | ((with_reducible refine gate_dst (N := 2) rfl ?_); refine box_event ?hg (N := 2) ?hd (cs := #[.slice none 0 0, .slice none 0 0, .slice none 0 0]) (t := 30) ?hr ?_; (case hd => rfl); (case hg => rfl); (case hr => first | (go_simp; done) | (go_simp; rfl)); intro b2 hg w20 hbox hb; have HGE := Aside0.mk (Nat.le_of_eq hg.symm); have HBX := Aside0.mk hb; have HBO := Aside0.mk hbox; clear hg hb hbox; obtain ⟨y0, y1, y2, y3, y4, y5⟩ := cells3 HBO.out))
  clear Cp1 Cp2 Cp3
  refine code_gen (fun W => Below w.heap.size w W ∧ Kd.C (Kd.slice 37 (Kd.int .u32)) W (some ⟨g10, 0, none⟩) 2 [[5], [6]] ∧ Kd.C (Kd.slice 35 (Kd.slice 37 (Kd.int .u32))) W (some ⟨g14, 0, none⟩) 2 [[[], [9]], [[], []]] ∧ W.heap[b1]? = some (.cells #[.slice (some ⟨g10, 0, none⟩) 2 2, .slice (some ⟨g14, 0, none⟩) 2 2] 25 (0, 0)) ∧ Kd.C (Kd.slice 37 (Kd.int .u32)) W (some ⟨gG, 0, none⟩) 2 [[15], [4294967295]] ∧ Kd.C (Kd.slice 37 (Kd.int .u32)) W A1 2 [[5], [6]] ∧ Kd.C (Kd.slice 35 (Kd.slice 37 (Kd.int .u32))) W A2 2 [[[], []], [[], []]] ∧ W.heap[b2]? = some (.cells #[.slice (some ⟨gG, 0, none⟩) 2 dA0, .slice A1 2 dA1, .slice A2 2 dA2] 30 (0, 0))) ⟨below_step HB.out (below_set (below_set (below_set HBX.out HGE.out) HGE.out) HGE.out), Kd.C_below C10.out (below_set (below_set (below_set HBX.out HGE.out) HGE.out) HGE.out), Kd.C_below C14.out (below_set (below_set (below_set HBX.out HGE.out) HGE.out) HGE.out), blk_below X1.out (below_set (below_set (below_set HBX.out HGE.out) HGE.out) HGE.out), Kd.C_below VA0.out (below_set (below_set (below_set HBX.out HGE.out) HGE.out) HGE.out), Kd.C_below VA1.out (below_set (below_set (below_set HBX.out HGE.out) HGE.out) HGE.out), Kd.C_below VA2.out (below_set (below_set (below_set HBX.out HGE.out) HGE.out) HGE.out), (blk_put (blk_put (blk_put HBO.out 0 (.slice (some ⟨gG, 0, none⟩) 2 dA0) rfl) 1 (.slice A1 2 dA1) rfl) 2 (.slice A2 2 dA2) rfl)⟩ ?_
  clear HGE HBX HBO y0 y1 y2 y3 y4 y5
  rintro w21 ⟨h0_, h1_, h2_, h3_, h4_, h5_, h6_, h7_⟩
  replace HB := Aside0.mk h0_
  replace C10 := Aside0.mk h1_
  replace C14 := Aside0.mk h2_
  replace X1 := Aside0.mk h3_
  replace VA0 := Aside0.mk h4_
  replace VA1 := Aside0.mk h5_
  replace VA2 := Aside0.mk h6_
  have X2 := Aside0.mk h7_
  clear h0_ h1_ h2_ h3_ h4_ h5_ h6_ h7_
  go_upto_region 4 with (first | ((with_reducible refine gate_dst (N := 25) rfl ?_); refine row_event ?hg (n := 1) (cs := #[.int .u32 1]) (t := 37) ?hr ?_; (case hg => rfl); (case hr => first | (go_simp; done) | (go_simp; rfl)); intro q1 hg wq1 hbox hb; have HB := Aside0.mk (below_step HB.out hb); have C10 := Aside0.mk (Kd.C_below C10.out hb); have C14 := Aside0.mk (Kd.C_below C14.out hb); have X1 := Aside0.mk (blk_below X1.out hb); have VA0 := Aside0.mk (Kd.C_below VA0.out hb); have VA1 := Aside0.mk (Kd.C_below VA1.out hb); have VA2 := Aside0.mk (Kd.C_below VA2.out hb); have X2 := Aside0.mk (blk_below X2.out hb); have Cq1 : Aside0 (Kd.C (Kd.int .u32) wq1 (some ⟨q1, 0, none⟩) 1 [1]) := ⟨lit1 hbox⟩; clear hg hbox hb) | ((with_reducible refine gate_dst (N := 26) rfl ?_); refine row_event ?hg (n := 1) (cs := #[.int .u32 2]) (t := 37) ?hr ?_; (case hg => rfl); (case hr => first | (go_simp; done) | (go_simp; rfl)); intro q2 hg wq2 hbox hb; have HB := Aside0.mk (below_step HB.out hb); have C10 := Aside0.mk (Kd.C_below C10.out hb); have C14 := Aside0.mk (Kd.C_below C14.out hb); have X1 := Aside0.mk (blk_below X1.out hb); have VA0 := Aside0.mk (Kd.C_below VA0.out hb); have VA1 := Aside0.mk (Kd.C_below VA1.out hb); have VA2 := Aside0.mk (Kd.C_below VA2.out hb); have X2 := Aside0.mk (blk_below X2.out hb); have Cq1 := Aside0.mk (Kd.C_below Cq1.out hb); have Cq2 : Aside0 (Kd.C (Kd.int .u32) wq2 (some ⟨q2, 0, none⟩) 1 [2]) := ⟨lit1 hbox⟩; clear hg hbox hb) | ((with_reducible refine gate_dst (N := 27) rfl ?_); refine row_event ?hg (n := 2) (cs := #[.slice (some ⟨q1, 0, none⟩) 1 1, .slice (some ⟨q2, 0, none⟩) 1 1]) (t := 35) ?hr ?_; (case hg => rfl); (case hr => first | (go_simp; done) | (go_simp; rfl)); intro q3 hg wq3 hbox hb; have HB := Aside0.mk (below_step HB.out hb); have C10 := Aside0.mk (Kd.C_below C10.out hb); have C14 := Aside0.mk (Kd.C_below C14.out hb); have X1 := Aside0.mk (blk_below X1.out hb); have VA0 := Aside0.mk (Kd.C_below VA0.out hb); have VA1 := Aside0.mk (Kd.C_below VA1.out hb); have VA2 := Aside0.mk (Kd.C_below VA2.out hb); have X2 := Aside0.mk (blk_below X2.out hb); have Cq1 := Aside0.mk (Kd.C_below Cq1.out hb); have Cq2 := Aside0.mk (Kd.C_below Cq2.out hb); have Cq3 : Aside0 (Kd.C (Kd.slice 37 (Kd.int .u32)) wq3 (some ⟨q3, 0, none⟩) 2 [[1], [2]]) := ⟨lit2 37 (Kd.int .u32) (x1 := [1]) (x2 := [2]) hbox Cq1.out (Nat.le_refl _) Cq2.out (Nat.le_refl _)⟩; clear hg hbox hb) | ((with_reducible refine gate_dst (N := 28) rfl ?_); refine row_event ?hg (n := 1) (cs := #[.int .u32 3]) (t := 37) ?hr ?_; (case hg => rfl); (case hr => first | (go_simp; done) | (go_simp; rfl)); intro s1 hg ws1 hbox hb; have HB := Aside0.mk (below_step HB.out hb); have C10 := Aside0.mk (Kd.C_below C10.out hb); have C14 := Aside0.mk (Kd.C_below C14.out hb); have X1 := Aside0.mk (blk_below X1.out hb); have VA0 := Aside0.mk (Kd.C_below VA0.out hb); have VA1 := Aside0.mk (Kd.C_below VA1.out hb); have VA2 := Aside0.mk (Kd.C_below VA2.out hb); have X2 := Aside0.mk (blk_below X2.out hb); have Cq1 := Aside0.mk (Kd.C_below Cq1.out hb); have Cq2 := Aside0.mk (Kd.C_below Cq2.out hb); have Cq3 := Aside0.mk (Kd.C_below Cq3.out hb); have Cs1 : Aside0 (Kd.C (Kd.int .u32) ws1 (some ⟨s1, 0, none⟩) 1 [3]) := ⟨lit1 hbox⟩; clear hg hbox hb) | ((with_reducible refine gate_dst (N := 29) rfl ?_); refine row_event ?hg (n := 1) (cs := #[.int .u32 0]) (t := 37) ?hr ?_; (case hg => rfl); (case hr => first | (go_simp; done) | (go_simp; rfl)); intro s2 hg ws2 hbox hb; have HB := Aside0.mk (below_step HB.out hb); have C10 := Aside0.mk (Kd.C_below C10.out hb); have C14 := Aside0.mk (Kd.C_below C14.out hb); have X1 := Aside0.mk (blk_below X1.out hb); have VA0 := Aside0.mk (Kd.C_below VA0.out hb); have VA1 := Aside0.mk (Kd.C_below VA1.out hb); have VA2 := Aside0.mk (Kd.C_below VA2.out hb); have X2 := Aside0.mk (blk_below X2.out hb); have Cq1 := Aside0.mk (Kd.C_below Cq1.out hb); have Cq2 := Aside0.mk (Kd.C_below Cq2.out hb); have Cq3 := Aside0.mk (Kd.C_below Cq3.out hb); have Cs1 := Aside0.mk (Kd.C_below Cs1.out hb); have Cs2 : Aside0 (Kd.C (Kd.int .u32) ws2 (some ⟨s2, 0, none⟩) 1 [0]) := ⟨lit1 hbox⟩; clear hg hbox hb) | ((with_reducible refine gate_dst (N := 30) rfl ?_); refine row_event ?hg (n := 2) (cs := #[.slice (some ⟨s1, 0, none⟩) 1 1, .slice (some ⟨s2, 0, none⟩) 1 1]) (t := 35) ?hr ?_; (case hg => rfl); (case hr => first | (go_simp; done) | (go_simp; rfl)); intro s3 hg ws3 hbox hb; have HB := Aside0.mk (below_step HB.out hb); have C10 := Aside0.mk (Kd.C_below C10.out hb); have C14 := Aside0.mk (Kd.C_below C14.out hb); have X1 := Aside0.mk (blk_below X1.out hb); have VA0 := Aside0.mk (Kd.C_below VA0.out hb); have VA1 := Aside0.mk (Kd.C_below VA1.out hb); have VA2 := Aside0.mk (Kd.C_below VA2.out hb); have X2 := Aside0.mk (blk_below X2.out hb); have Cq1 := Aside0.mk (Kd.C_below Cq1.out hb); have Cq2 := Aside0.mk (Kd.C_below Cq2.out hb); have Cq3 := Aside0.mk (Kd.C_below Cq3.out hb); have Cs1 := Aside0.mk (Kd.C_below Cs1.out hb); have Cs2 := Aside0.mk (Kd.C_below Cs2.out hb); have Cs3 : Aside0 (Kd.C (Kd.slice 37 (Kd.int .u32)) ws3 (some ⟨s3, 0, none⟩) 2 [[3], [0]]) := ⟨lit2 37 (Kd.int .u32) (x1 := [3]) (x2 := [0]) hbox Cs1.out (Nat.le_refl _) Cs2.out (Nat.le_refl _)⟩; clear hg hbox hb; obtain ⟨x0, x1, x2, x3⟩ := cells2 X1.out) | (go_at_call 16; (refine (ideal_Turn.calls 30 (some ⟨q3, 0, none⟩) 2 [[1], [2]] (some ⟨s3, 0, none⟩) 2 [[3], [0]] (some ⟨g10, 0, none⟩) 2 [[5], [6]] (some ⟨g14, 0, none⟩) 2 [[[], [9]], [[], []]] 3 3 [[5], [6]] [[[], [7]], [[], []]] 0 _ Cq3.out (Nat.le_refl _) Cs3.out (Nat.le_refl _) C10.out (Nat.le_refl _) C14.out (Nat.le_refl _) aw_t).mono ?_); rintro e wt1 ⟨v0, v1, rfl, hR0, hR1, hb⟩; clear x0 x1 x2 x3; have HB := Aside0.mk (below_step HB.out hb); have C10 := Aside0.mk (Kd.C_below C10.out hb); have C14 := Aside0.mk (Kd.C_below C14.out hb); have X1 := Aside0.mk (blk_below X1.out hb); have VA0 := Aside0.mk (Kd.C_below VA0.out hb); have VA1 := Aside0.mk (Kd.C_below VA1.out hb); have VA2 := Aside0.mk (Kd.C_below VA2.out hb); have X2 := Aside0.mk (blk_below X2.out hb); have Cq1 := Aside0.mk (Kd.C_below Cq1.out hb); have Cq2 := Aside0.mk (Kd.C_below Cq2.out hb); have Cq3 := Aside0.mk (Kd.C_below Cq3.out hb); have Cs1 := Aside0.mk (Kd.C_below Cs1.out hb); have Cs2 := Aside0.mk (Kd.C_below Cs2.out hb); have Cs3 := Aside0.mk (Kd.C_below Cs3.out hb); obtain ⟨K0, dK0, ev0⟩ := Kd.R_slice hR0; rw [show ([[5], [6]] : List (List Int)).length = 2 from rfl] at ev0; subst ev0; have VK0 : Aside0 (Kd.C (Kd.slice 37 (Kd.int .u32)) wt1 K0 2 [[5], [6]]) := ⟨(Kd.R_reads' hR0).2.2⟩; have LK0 : 2 ≤ dK0 := (Kd.R_reads' hR0).2.1; have LK0 := Aside0.mk LK0; obtain ⟨K1, dK1, ev1⟩ := Kd.R_slice hR1; rw [show ([[[], [7]], [[], []]] : List (List (List Int))).length = 2 from rfl] at ev1; subst ev1; have VK1 : Aside0 (Kd.C (Kd.slice 35 (Kd.slice 37 (Kd.int .u32))) wt1 K1 2 [[[], [7]], [[], []]]) := ⟨(Kd.R_reads' hR1).2.2⟩; have LK1 : 2 ≤ dK1 := (Kd.R_reads' hR1).2.1; have LK1 := Aside0.mk LK1; clear hR0 hR1 hb) | ((with_reducible refine gate_dst (N := 4) rfl ?_); refine box_event ?hg (N := 4) ?hd (cs := #[.slice none 0 0, .slice none 0 0]) (t := 25) ?hr ?_; (case hd => rfl); (case hg => rfl); (case hr => first | (go_simp; done) | (go_simp; rfl)); intro b4 hg w30 hbox hb; have HGE := Aside0.mk (Nat.le_of_eq hg.symm); have HBX := Aside0.mk hb; have HBO := Aside0.mk hbox; clear hg hb hbox; obtain ⟨y0, y1, y2, y3⟩ := cells2 HBO.out))
  clear Cq1 Cq2 Cq3 Cs1 Cs2 Cs3
  refine code_gen (fun W => Below w.heap.size w W ∧ Kd.C (Kd.slice 37 (Kd.int .u32)) W (some ⟨g10, 0, none⟩) 2 [[5], [6]] ∧ Kd.C (Kd.slice 35 (Kd.slice 37 (Kd.int .u32))) W (some ⟨g14, 0, none⟩) 2 [[[], [9]], [[], []]] ∧ W.heap[b1]? = some (.cells #[.slice (some ⟨g10, 0, none⟩) 2 2, .slice (some ⟨g14, 0, none⟩) 2 2] 25 (0, 0)) ∧ Kd.C (Kd.slice 37 (Kd.int .u32)) W (some ⟨gG, 0, none⟩) 2 [[15], [4294967295]] ∧ Kd.C (Kd.slice 37 (Kd.int .u32)) W A1 2 [[5], [6]] ∧ Kd.C (Kd.slice 35 (Kd.slice 37 (Kd.int .u32))) W A2 2 [[[], []], [[], []]] ∧ W.heap[b2]? = some (.cells #[.slice (some ⟨gG, 0, none⟩) 2 dA0, .slice A1 2 dA1, .slice A2 2 dA2] 30 (0, 0)) ∧ Kd.C (Kd.slice 37 (Kd.int .u32)) W K0 2 [[5], [6]] ∧ Kd.C (Kd.slice 35 (Kd.slice 37 (Kd.int .u32))) W K1 2 [[[], [7]], [[], []]] ∧ W.heap[b4]? = some (.cells #[.slice K0 2 dK0, .slice K1 2 dK1] 25 (0, 0))) ⟨below_step HB.out (below_set (below_set HBX.out HGE.out) HGE.out), Kd.C_below C10.out (below_set (below_set HBX.out HGE.out) HGE.out), Kd.C_below C14.out (below_set (below_set HBX.out HGE.out) HGE.out), blk_below X1.out (below_set (below_set HBX.out HGE.out) HGE.out), Kd.C_below VA0.out (below_set (below_set HBX.out HGE.out) HGE.out), Kd.C_below VA1.out (below_set (below_set HBX.out HGE.out) HGE.out), Kd.C_below VA2.out (below_set (below_set HBX.out HGE.out) HGE.out), blk_below X2.out (below_set (below_set HBX.out HGE.out) HGE.out), Kd.C_below VK0.out (below_set (below_set HBX.out HGE.out) HGE.out), Kd.C_below VK1.out (below_set (below_set HBX.out HGE.out) HGE.out), (blk_put (blk_put HBO.out 0 (.slice K0 2 dK0) rfl) 1 (.slice K1 2 dK1) rfl)⟩ ?_
  clear HGE HBX HBO y0 y1 y2 y3
  rintro w31 ⟨h0_, h1_, h2_, h3_, h4_, h5_, h6_, h7_, h8_, h9_, h10_⟩
  replace HB := Aside0.mk h0_
  replace C10 := Aside0.mk h1_
  replace C14 := Aside0.mk h2_
  replace X1 := Aside0.mk h3_
  replace VA0 := Aside0.mk h4_
  replace VA1 := Aside0.mk h5_
  replace VA2 := Aside0.mk h6_
  replace X2 := Aside0.mk h7_
  replace VK0 := Aside0.mk h8_
  replace VK1 := Aside0.mk h9_
  have X4 := Aside0.mk h10_
  clear h0_ h1_ h2_ h3_ h4_ h5_ h6_ h7_ h8_ h9_ h10_
  go_upto_region 5 with (first | ((with_reducible refine gate_dst (N := 36) rfl ?_); refine row_event ?hg (n := 1) (cs := #[.int .u32 3]) (t := 37) ?hr ?_; (case hg => rfl); (case hr => first | (go_simp; done) | (go_simp; rfl)); intro t1 hg wt1 hbox hb; have HB := Aside0.mk (below_step HB.out hb); have C10 := Aside0.mk (Kd.C_below C10.out hb); have C14 := Aside0.mk (Kd.C_below C14.out hb); have X1 := Aside0.mk (blk_below X1.out hb); have VA0 := Aside0.mk (Kd.C_below VA0.out hb); have VA1 := Aside0.mk (Kd.C_below VA1.out hb); have VA2 := Aside0.mk (Kd.C_below VA2.out hb); have X2 := Aside0.mk (blk_below X2.out hb); have VK0 := Aside0.mk (Kd.C_below VK0.out hb); have VK1 := Aside0.mk (Kd.C_below VK1.out hb); have X4 := Aside0.mk (blk_below X4.out hb); have Ct1 : Aside0 (Kd.C (Kd.int .u32) wt1 (some ⟨t1, 0, none⟩) 1 [3]) := ⟨lit1 hbox⟩; clear hg hbox hb) | ((with_reducible refine gate_dst (N := 37) rfl ?_); refine row_event ?hg (n := 1) (cs := #[.int .u32 0]) (t := 37) ?hr ?_; (case hg => rfl); (case hr => first | (go_simp; done) | (go_simp; rfl)); intro t2 hg wt2 hbox hb; have HB := Aside0.mk (below_step HB.out hb); have C10 := Aside0.mk (Kd.C_below C10.out hb); have C14 := Aside0.mk (Kd.C_below C14.out hb); have X1 := Aside0.mk (blk_below X1.out hb); have VA0 := Aside0.mk (Kd.C_below VA0.out hb); have VA1 := Aside0.mk (Kd.C_below VA1.out hb); have VA2 := Aside0.mk (Kd.C_below VA2.out hb); have X2 := Aside0.mk (blk_below X2.out hb); have VK0 := Aside0.mk (Kd.C_below VK0.out hb); have VK1 := Aside0.mk (Kd.C_below VK1.out hb); have X4 := Aside0.mk (blk_below X4.out hb); have Ct1 := Aside0.mk (Kd.C_below Ct1.out hb); have Ct2 : Aside0 (Kd.C (Kd.int .u32) wt2 (some ⟨t2, 0, none⟩) 1 [0]) := ⟨lit1 hbox⟩; clear hg hbox hb) | ((with_reducible refine gate_dst (N := 38) rfl ?_); refine row_event ?hg (n := 2) (cs := #[.slice (some ⟨t1, 0, none⟩) 1 1, .slice (some ⟨t2, 0, none⟩) 1 1]) (t := 35) ?hr ?_; (case hg => rfl); (case hr => first | (go_simp; done) | (go_simp; rfl)); intro t3 hg wt3 hbox hb; have HB := Aside0.mk (below_step HB.out hb); have C10 := Aside0.mk (Kd.C_below C10.out hb); have C14 := Aside0.mk (Kd.C_below C14.out hb); have X1 := Aside0.mk (blk_below X1.out hb); have VA0 := Aside0.mk (Kd.C_below VA0.out hb); have VA1 := Aside0.mk (Kd.C_below VA1.out hb); have VA2 := Aside0.mk (Kd.C_below VA2.out hb); have X2 := Aside0.mk (blk_below X2.out hb); have VK0 := Aside0.mk (Kd.C_below VK0.out hb); have VK1 := Aside0.mk (Kd.C_below VK1.out hb); have X4 := Aside0.mk (blk_below X4.out hb); have Ct1 := Aside0.mk (Kd.C_below Ct1.out hb); have Ct2 := Aside0.mk (Kd.C_below Ct2.out hb); have Ct3 : Aside0 (Kd.C (Kd.slice 37 (Kd.int .u32)) wt3 (some ⟨t3, 0, none⟩) 2 [[3], [0]]) := ⟨lit2 37 (Kd.int .u32) (x1 := [3]) (x2 := [0]) hbox Ct1.out (Nat.le_refl _) Ct2.out (Nat.le_refl _)⟩; clear hg hbox hb; obtain ⟨x0, x1, x2, x3⟩ := cells2 X4.out) | (go_at_call 12; (refine (ideal_See.calls 30 (some ⟨t3, 0, none⟩) 2 [[3], [0]] K0 dK0 [[5], [6]] K1 dK1 [[[], [7]], [[], []]] 3 3 [[15], [4294967295]] [[5], [6]] [[[], []], [[], []]] 0 _ Ct3.out (Nat.le_refl _) VK0.out LK0.out VK1.out LK1.out (HT.out.step HB.out) aw_s2).mono ?_); rintro e ws2 ⟨v0, v1, v2, rfl, hR0, hR1, hR2, hb⟩; clear x0 x1 x2 x3; have HB := Aside0.mk (below_step HB.out hb); have C10 := Aside0.mk (Kd.C_below C10.out hb); have C14 := Aside0.mk (Kd.C_below C14.out hb); have X1 := Aside0.mk (blk_below X1.out hb); have VA0 := Aside0.mk (Kd.C_below VA0.out hb); have VA1 := Aside0.mk (Kd.C_below VA1.out hb); have VA2 := Aside0.mk (Kd.C_below VA2.out hb); have X2 := Aside0.mk (blk_below X2.out hb); have VK0 := Aside0.mk (Kd.C_below VK0.out hb); have VK1 := Aside0.mk (Kd.C_below VK1.out hb); have X4 := Aside0.mk (blk_below X4.out hb); have Ct1 := Aside0.mk (Kd.C_below Ct1.out hb); have Ct2 := Aside0.mk (Kd.C_below Ct2.out hb); have Ct3 := Aside0.mk (Kd.C_below Ct3.out hb); obtain ⟨D0, dD0, ev0⟩ := Kd.R_slice hR0; rw [show ([[15], [4294967295]] : List (List Int)).length = 2 from rfl] at ev0; subst ev0; have VD0 : Aside0 (Kd.C (Kd.slice 37 (Kd.int .u32)) ws2 D0 2 [[15], [4294967295]]) := ⟨(Kd.R_reads' hR0).2.2⟩; have LD0 : 2 ≤ dD0 := (Kd.R_reads' hR0).2.1; have LD0 := Aside0.mk LD0; obtain ⟨D1, dD1, ev1⟩ := Kd.R_slice hR1; rw [show ([[5], [6]] : List (List Int)).length = 2 from rfl] at ev1; subst ev1; have VD1 : Aside0 (Kd.C (Kd.slice 37 (Kd.int .u32)) ws2 D1 2 [[5], [6]]) := ⟨(Kd.R_reads' hR1).2.2⟩; have LD1 : 2 ≤ dD1 := (Kd.R_reads' hR1).2.1; have LD1 := Aside0.mk LD1; obtain ⟨D2, dD2, ev2⟩ := Kd.R_slice hR2; rw [show ([[[], []], [[], []]] : List (List (List Int))).length = 2 from rfl] at ev2; subst ev2; have VD2 : Aside0 (Kd.C (Kd.slice 35 (Kd.slice 37 (Kd.int .u32))) ws2 D2 2 [[[], []], [[], []]]) := ⟨(Kd.R_reads' hR2).2.2⟩; have LD2 : 2 ≤ dD2 := (Kd.R_reads' hR2).2.1; have LD2 := Aside0.mk LD2; clear hR0 hR1 hR2 hb) | ((with_reducible refine gate_dst (N := 6) rfl ?_); refine box_event ?hg (N := 6) ?hd (cs := #[.slice none 0 0, .slice none 0 0, .slice none 0 0]) (t := 30) ?hr ?_; (case hd => rfl); (case hg => rfl); (case hr => first | (go_simp; done) | (go_simp; rfl)); intro b6 hg w40 hbox hb; have HGE := Aside0.mk (Nat.le_of_eq hg.symm); have HBX := Aside0.mk hb; have HBO := Aside0.mk hbox; clear hg hb hbox; obtain ⟨y0, y1, y2, y3, y4, y5⟩ := cells3 HBO.out))
  clear Ct1 Ct2 Ct3
  refine code_gen (fun W => Below w.heap.size w W ∧ Kd.C (Kd.slice 37 (Kd.int .u32)) W (some ⟨g10, 0, none⟩) 2 [[5], [6]] ∧ Kd.C (Kd.slice 35 (Kd.slice 37 (Kd.int .u32))) W (some ⟨g14, 0, none⟩) 2 [[[], [9]], [[], []]] ∧ W.heap[b1]? = some (.cells #[.slice (some ⟨g10, 0, none⟩) 2 2, .slice (some ⟨g14, 0, none⟩) 2 2] 25 (0, 0)) ∧ Kd.C (Kd.slice 37 (Kd.int .u32)) W (some ⟨gG, 0, none⟩) 2 [[15], [4294967295]] ∧ Kd.C (Kd.slice 37 (Kd.int .u32)) W A1 2 [[5], [6]] ∧ Kd.C (Kd.slice 35 (Kd.slice 37 (Kd.int .u32))) W A2 2 [[[], []], [[], []]] ∧ W.heap[b2]? = some (.cells #[.slice (some ⟨gG, 0, none⟩) 2 dA0, .slice A1 2 dA1, .slice A2 2 dA2] 30 (0, 0)) ∧ Kd.C (Kd.slice 37 (Kd.int .u32)) W K0 2 [[5], [6]] ∧ Kd.C (Kd.slice 35 (Kd.slice 37 (Kd.int .u32))) W K1 2 [[[], [7]], [[], []]] ∧ W.heap[b4]? = some (.cells #[.slice K0 2 dK0, .slice K1 2 dK1] 25 (0, 0)) ∧ Kd.C (Kd.slice 37 (Kd.int .u32)) W D0 2 [[15], [4294967295]] ∧ Kd.C (Kd.slice 37 (Kd.int .u32)) W D1 2 [[5], [6]] ∧ Kd.C (Kd.slice 35 (Kd.slice 37 (Kd.int .u32))) W D2 2 [[[], []], [[], []]] ∧ W.heap[b6]? = some (.cells #[.slice D0 2 dD0, .slice D1 2 dD1, .slice D2 2 dD2] 30 (0, 0))) ⟨below_step HB.out (below_set (below_set (below_set HBX.out HGE.out) HGE.out) HGE.out), Kd.C_below C10.out (below_set (below_set (below_set HBX.out HGE.out) HGE.out) HGE.out), Kd.C_below C14.out (below_set (below_set (below_set HBX.out HGE.out) HGE.out) HGE.out), blk_below X1.out (below_set (below_set (below_set HBX.out HGE.out) HGE.out) HGE.out), Kd.C_below VA0.out (below_set (below_set (below_set HBX.out HGE.out) HGE.out) HGE.out), Kd.C_below VA1.out (below_set (below_set (below_set HBX.out HGE.out) HGE.out) HGE.out), Kd.C_below VA2.out (below_set (below_set (below_set HBX.out HGE.out) HGE.out) HGE.out), blk_below X2.out (below_set (below_set (below_set HBX.out HGE.out) HGE.out) HGE.out), Kd.C_below VK0.out (below_set (below_set (below_set HBX.out HGE.out) HGE.out) HGE.out), Kd.C_below VK1.out (below_set (below_set (below_set HBX.out HGE.out) HGE.out) HGE.out), blk_below X4.out (below_set (below_set (below_set HBX.out HGE.out) HGE.out) HGE.out), Kd.C_below VD0.out (below_set (below_set (below_set HBX.out HGE.out) HGE.out) HGE.out), Kd.C_below VD1.out (below_set (below_set (below_set HBX.out HGE.out) HGE.out) HGE.out), Kd.C_below VD2.out (below_set (below_set (below_set HBX.out HGE.out) HGE.out) HGE.out), (blk_put (blk_put (blk_put HBO.out 0 (.slice D0 2 dD0) rfl) 1 (.slice D1 2 dD1) rfl) 2 (.slice D2 2 dD2) rfl)⟩ ?_
  clear HGE HBX HBO y0 y1 y2 y3 y4 y5
  rintro w41 ⟨h0_, h1_, h2_, h3_, h4_, h5_, h6_, h7_, h8_, h9_, h10_, h11_, h12_, h13_, h14_⟩
  replace HB := Aside0.mk h0_
  replace C10 := Aside0.mk h1_
  replace C14 := Aside0.mk h2_
  replace X1 := Aside0.mk h3_
  replace VA0 := Aside0.mk h4_
  replace VA1 := Aside0.mk h5_
  replace VA2 := Aside0.mk h6_
  replace X2 := Aside0.mk h7_
  replace VK0 := Aside0.mk h8_
  replace VK1 := Aside0.mk h9_
  replace X4 := Aside0.mk h10_
  replace VD0 := Aside0.mk h11_
  replace VD1 := Aside0.mk h12_
  replace VD2 := Aside0.mk h13_
  have X6 := Aside0.mk h14_
  clear h0_ h1_ h2_ h3_ h4_ h5_ h6_ h7_ h8_ h9_ h10_ h11_ h12_ h13_ h14_
  obtain ⟨_, B0, e0, eG, hx0, _, hr0⟩ := at_V VA0.out 0 (by decide) (by decide)
  cases eG
  obtain ⟨ad15, ea, hy0⟩ := Kd.at_int hr0 0 (by decide) (by decide)
  subst ea
  obtain ⟨_, B1, e1, eG, hx1, _, hr1⟩ := at_V VA0.out 1 (by decide) (by decide)
  cases eG
  obtain ⟨adM, ea, hy1⟩ := Kd.at_int hr1 0 (by decide) (by decide)
  subst ea
  have P0 : Aside0 (w41.cell? ⟨gG, 0, none⟩ = some (.slice (some ad15) 1 e0)) := ⟨by have h := hx0; rw [show (rdV [[15], [4294967295]] 0).length = 1 from rfl] at h; simpa [Addr.add] using h⟩
  have P1 : Aside0 (w41.cell? ⟨gG, 1, none⟩ = some (.slice (some adM) 1 e1)) := ⟨hx1⟩
  have P2 : Aside0 (w41.cell? ad15 = some (.int .u32 15)) := ⟨by have h := hy0; rw [show rd (rdV [[15], [4294967295]] 0) 0 = 15 from rfl] at h; simpa [Addr.add] using h⟩
  have P3 : Aside0 (w41.cell? adM = some (.int .u32 4294967295)) := ⟨by have h := hy1; rw [show rd (rdV [[15], [4294967295]] 1) 0 = 4294967295 from rfl] at h; simpa [Addr.add] using h⟩
  clear hx0 hr0 hy0 hx1 hr1 hy1
  obtain ⟨x0, x1, x2, x3⟩ := cells2 X1.out
  obtain ⟨u0, u1, u2, u3⟩ := cells2 X4.out
  obtain ⟨y0, y1, y2, y3, y4, y5⟩ := cells3 X2.out
  obtain ⟨z0, z1, z2, z3, z4, z5⟩ := cells3 X6.out
  have m0 := P0.out
  have m1 := P1.out
  have m2 := P2.out
  have m3 := P3.out
  go_wp2_with (first | (go_at_call 10; (refine (ideal_Sound.calls 30 (some ⟨g10, 0, none⟩) 2 [[5], [6]] (some ⟨g14, 0, none⟩) 2 [[[], [9]], [[], []]] 2 1 true _ C10.out (Nat.le_refl _) C14.out (Nat.le_refl _) aw_so).mono ?_); rintro e w50 ⟨rfl, hb⟩; clear x0 x1 x2 x3 u0 u1 u2 u3 y0 y1 y2 y3 y4 y5 z0 z1 z2 z3 z4 z5 m0 m1 m2 m3; have HB := Aside0.mk (below_step HB.out hb); have C10 := Aside0.mk (Kd.C_below C10.out hb); have C14 := Aside0.mk (Kd.C_below C14.out hb); have X1 := Aside0.mk (blk_below X1.out hb); have VA0 := Aside0.mk (Kd.C_below VA0.out hb); have VA1 := Aside0.mk (Kd.C_below VA1.out hb); have VA2 := Aside0.mk (Kd.C_below VA2.out hb); have X2 := Aside0.mk (blk_below X2.out hb); have VK0 := Aside0.mk (Kd.C_below VK0.out hb); have VK1 := Aside0.mk (Kd.C_below VK1.out hb); have X4 := Aside0.mk (blk_below X4.out hb); have VD0 := Aside0.mk (Kd.C_below VD0.out hb); have VD1 := Aside0.mk (Kd.C_below VD1.out hb); have VD2 := Aside0.mk (Kd.C_below VD2.out hb); have X6 := Aside0.mk (blk_below X6.out hb); have P0 := Aside0.mk (pw_cell_below hb P0.out); have P1 := Aside0.mk (pw_cell_below hb P1.out); have P2 := Aside0.mk (pw_cell_below hb P2.out); have P3 := Aside0.mk (pw_cell_below hb P3.out); clear hb; obtain ⟨x0, x1, x2, x3⟩ := cells2 X1.out; obtain ⟨u0, u1, u2, u3⟩ := cells2 X4.out; obtain ⟨y0, y1, y2, y3, y4, y5⟩ := cells3 X2.out; obtain ⟨z0, z1, z2, z3, z4, z5⟩ := cells3 X6.out; have m0 := P0.out; have m1 := P1.out; have m2 := P2.out; have m3 := P3.out) | (go_at_call 18; (refine (ideal_Same.calls 30 (some ⟨gG, 0, none⟩) dA0 [[15], [4294967295]] A1 dA1 [[5], [6]] A2 dA2 [[[], []], [[], []]] D0 dD0 [[15], [4294967295]] D1 dD1 [[5], [6]] D2 dD2 [[[], []], [[], []]] true _ VA0.out LA0.out VA1.out LA1.out VA2.out LA2.out VD0.out LD0.out VD1.out LD1.out VD2.out LD2.out aw_sa).mono ?_); rintro e w51 ⟨rfl, hb⟩; clear x0 x1 x2 x3 u0 u1 u2 u3 y0 y1 y2 y3 y4 y5 z0 z1 z2 z3 z4 z5 m0 m1 m2 m3; have HB := Aside0.mk (below_step HB.out hb); have C10 := Aside0.mk (Kd.C_below C10.out hb); have C14 := Aside0.mk (Kd.C_below C14.out hb); have X1 := Aside0.mk (blk_below X1.out hb); have VA0 := Aside0.mk (Kd.C_below VA0.out hb); have VA1 := Aside0.mk (Kd.C_below VA1.out hb); have VA2 := Aside0.mk (Kd.C_below VA2.out hb); have X2 := Aside0.mk (blk_below X2.out hb); have VK0 := Aside0.mk (Kd.C_below VK0.out hb); have VK1 := Aside0.mk (Kd.C_below VK1.out hb); have X4 := Aside0.mk (blk_below X4.out hb); have VD0 := Aside0.mk (Kd.C_below VD0.out hb); have VD1 := Aside0.mk (Kd.C_below VD1.out hb); have VD2 := Aside0.mk (Kd.C_below VD2.out hb); have X6 := Aside0.mk (blk_below X6.out hb); have P0 := Aside0.mk (pw_cell_below hb P0.out); have P1 := Aside0.mk (pw_cell_below hb P1.out); have P2 := Aside0.mk (pw_cell_below hb P2.out); have P3 := Aside0.mk (pw_cell_below hb P3.out); clear hb; obtain ⟨x0, x1, x2, x3⟩ := cells2 X1.out; obtain ⟨u0, u1, u2, u3⟩ := cells2 X4.out; obtain ⟨y0, y1, y2, y3, y4, y5⟩ := cells3 X2.out; obtain ⟨z0, z1, z2, z3, z4, z5⟩ := cells3 X6.out; have m0 := P0.out; have m1 := P1.out; have m2 := P2.out; have m3 := P3.out) | (go_at_call 19; (refine (ideal_Alike.calls 30 (some ⟨g10, 0, none⟩) 2 [[5], [6]] (some ⟨g14, 0, none⟩) 2 [[[], [9]], [[], []]] K0 dK0 [[5], [6]] K1 dK1 [[[], [7]], [[], []]] false _ C10.out (Nat.le_refl _) C14.out (Nat.le_refl _) VK0.out LK0.out VK1.out LK1.out aw_al).mono ?_); rintro e w52 ⟨rfl, hb⟩; clear x0 x1 x2 x3 u0 u1 u2 u3 y0 y1 y2 y3 y4 y5 z0 z1 z2 z3 z4 z5 m0 m1 m2 m3; have HB := Aside0.mk (below_step HB.out hb); have C10 := Aside0.mk (Kd.C_below C10.out hb); have C14 := Aside0.mk (Kd.C_below C14.out hb); have X1 := Aside0.mk (blk_below X1.out hb); have VA0 := Aside0.mk (Kd.C_below VA0.out hb); have VA1 := Aside0.mk (Kd.C_below VA1.out hb); have VA2 := Aside0.mk (Kd.C_below VA2.out hb); have X2 := Aside0.mk (blk_below X2.out hb); have VK0 := Aside0.mk (Kd.C_below VK0.out hb); have VK1 := Aside0.mk (Kd.C_below VK1.out hb); have X4 := Aside0.mk (blk_below X4.out hb); have VD0 := Aside0.mk (Kd.C_below VD0.out hb); have VD1 := Aside0.mk (Kd.C_below VD1.out hb); have VD2 := Aside0.mk (Kd.C_below VD2.out hb); have X6 := Aside0.mk (blk_below X6.out hb); have P0 := Aside0.mk (pw_cell_below hb P0.out); have P1 := Aside0.mk (pw_cell_below hb P1.out); have P2 := Aside0.mk (pw_cell_below hb P2.out); have P3 := Aside0.mk (pw_cell_below hb P3.out); clear hb; obtain ⟨x0, x1, x2, x3⟩ := cells2 X1.out; obtain ⟨u0, u1, u2, u3⟩ := cells2 X4.out; obtain ⟨y0, y1, y2, y3, y4, y5⟩ := cells3 X2.out; obtain ⟨z0, z1, z2, z3, z4, z5⟩ := cells3 X6.out; have m0 := P0.out; have m1 := P1.out; have m2 := P2.out; have m3 := P3.out))
  go_ret
  exact ⟨rfl, HB.out⟩
def offertorylaw25_awake.f : Option Bool := some true
theorem offertorylaw25_awake.calls (r : Bool) (w : World) (hT : Tab w) (h : offertorylaw25_awake.f = some r) :
    Calls Tryd.prog 9 #[] w fun e w' => e = .returned (.bool r) ∧ Below w.heap.size w w' := by
  obtain rfl := Option.some.inj h
  exact awake_w w hT

end Go.Proofs.YtpicmnkkkgedeaaDoor.PAll
