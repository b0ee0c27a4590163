/- The Go functions that the laws reach, as Lean functions, and that each call comes to what its function says. Written by a program of this session (a turned copy of the kit's print). No condition beyond those that each theorem states. -/
import Derived.Test.YtpicmnkkkgedeaaDoorPAllx0
import Derived.Test.YtpicmnkkkgedeaaDoorPAllx1
import Derived.Test.YtpicmnkkkgedeaaDoorPAllx3
import Derived.Test.YtpicmnkkkgedeaaDoorPAllx7
import Derived.Test.YtpicmnkkkgedeaaDoorPAllx8
import Derived.Test.YtpicmnkkkgedeaaDoorPAllx11
import Derived.Test.YtpicmnkkkgedeaaDoorPAllx14
namespace Go.Proofs.YtpicmnkkkgedeaaDoor.PAll
open Go.RowKit Go.Proofs.YtpicmnkkkgedeaaDoorW.PrintWords Go.Proofs.YtpicmnkkkgedeaaDoorW.PrintLast Go.Proofs.YtpicmnkkkgedeaaDoorW.PrintMore
attribute [local go_sem] max2_int min2_int max_two min_two max_three min_three max_four min_four   -- for this text's walks alone
set_option linter.unusedVariables false
set_option linter.unusedSimpArgs false

/-! ### offertorylaw25_in: function 14 -/
def offertorylaw25_in.f (a0 : Int) (a1 : Int) : Option (Bool) := if 0 ≤ (IntKind.u64.wrap (a1)) then (some ((Go.bits .and .u64 (shr .u64 a0 (IntKind.u64.wrap (a1))) 1) == 1)) else (none)
set_option maxHeartbeats 8000000 in
set_option maxRecDepth 100000 in
theorem offertorylaw25_in.calls (a0 : Int) (a1 : Int) (r : Bool) (w : World) (h : offertorylaw25_in.f a0 a1 = some r) :
    Calls Tryd.prog 14 #[.int .u64 a0, .int .i64 a1] w fun e w' => e = .returned (.bool r) ∧ Drawn0 w w' := by
  have H : (if 0 ≤ (IntKind.u64.wrap (a1)) then (some ((Go.bits .and .u64 (shr .u64 a0 (IntKind.u64.wrap (a1))) 1) == 1)) else (none)) = some r := h
  clear h
  obtain ⟨ji3, hji3⟩ : ∃ j_ : Int, (IntKind.u64.wrap (a1)) = j_ := ⟨_, rfl⟩
  replace H : (if 0 ≤ (ji3) then (some ((Go.bits .and .u64 (shr .u64 a0 (ji3)) 1) == 1)) else (none)) = some r := by first | (rw [hji3] at H; exact H) | (simp only [hji3] at H ⊢; exact H)
  by_cases c4 : 0 ≤ (ji3)
  · rw [if_pos c4] at H
    have c4b0 := eq_true c4
    have c4b1 : decide (0 ≤ (ji3)) = true := decide_eq_true c4
    clear c4
    obtain ⟨ji5, hji5⟩ : ∃ j_ : Int, (shr .u64 a0 (ji3)) = j_ := ⟨_, rfl⟩
    replace H : (some ((Go.bits .and .u64 (ji5) 1) == 1)) = some r := by first | (rw [hji5] at H; exact H) | (simp only [hji5] at H ⊢; exact H)
    have hji5_ : (a0 / 2 ^ min (ji3).toNat 64) = ji5 := hji5
    have hji5z : (ji3) ≤ 64 → (a0 / 2 ^ (ji3).toNat) = ji5 := shr_small hji5
    obtain rfl := Option.some.inj H
    go_enter Tryd.func14, Tryd.ntmps14
    go_wp2
    go_ret
    exact ⟨by first | rfl | (simp; done) | (simp only [← hji3, ← hji5] <;> (first | rfl | simp)) | (simp [*]; done), by repeat (first | exact Drawn0.refl _ | apply Drawn0.step)⟩
  · rw [if_neg c4] at H
    exact absurd H (by simp)

/-! ### offertoryref01_Cells: function 15 -/
def offertoryref01_Cells.l0 : Nat → List Int → List Int → Int → Option (Bool)
  | 0, _, _, _ => none
  | k + 1, x0, x1, x5 => if x5 < (x0.length : Int) then (if 0 ≤ x5 then (if x5 < (x1.length : Int) then (if (rd x0 x5) = (rd x1 x5) then (offertoryref01_Cells.l0 k x0 x1 (wrap64 (x5 + 1))) else (some false)) else (none)) else (none)) else (some true)
def offertoryref01_Cells.f (k : Nat) (l0 : List Int) (l1 : List Int) : Option (Bool) := if (l0.length : Int) = (l1.length : Int) then (offertoryref01_Cells.l0 k l0 l1 0) else (some false)
theorem offertoryref01_Cells.mono_l : ∀ k, (∀ y0 y1 y2, LeO (offertoryref01_Cells.l0 k y0 y1 y2) (offertoryref01_Cells.l0 (k + 1) y0 y1 y2))
  | 0 => fun _ _ _ r h => by simp [offertoryref01_Cells.l0] at h
  | k + 1 => by
    have ih0 := offertoryref01_Cells.mono_l k
    · intro y0 y1 y2
      unfold offertoryref01_Cells.l0
      repeat' first
      | (with_reducible exact ih0 _ _ _)
      | (with_reducible exact LeO.refl _)
      | (with_reducible exact LeO.none _)
      | (with_reducible refine LeO.ite ?_ ?_)
      | (with_reducible refine LeO.bind ?_ (fun _ => ?_))
      | exact ih0 _ _ _
      | exact LeO.none _
      | refine LeO.ite ?_ ?_
      | refine LeO.bind ?_ (fun _ => ?_)
theorem offertoryref01_Cells.mono : ∀ a0 a1 k, LeO (offertoryref01_Cells.f k a0 a1) (offertoryref01_Cells.f (k + 1) a0 a1) := by
  intro a0 a1 k
  have ih0 := offertoryref01_Cells.mono_l k
  unfold offertoryref01_Cells.f
  repeat' first
      | (with_reducible exact ih0 _ _ _)
      | (with_reducible exact LeO.refl _)
      | (with_reducible exact LeO.none _)
      | (with_reducible refine LeO.ite ?_ ?_)
      | (with_reducible refine LeO.bind ?_ (fun _ => ?_))
      | exact ih0 _ _ _
      | exact LeO.none _
      | refine LeO.ite ?_ ?_
      | refine LeO.bind ?_ (fun _ => ?_)
set_option maxHeartbeats 8000000 in
set_option maxRecDepth 100000 in
theorem offertoryref01_Cells.calls (k : Nat) (A0 : Option Addr) (c0 : Nat) (l0 : List Int) (A1 : Option Addr) (c1 : Nat) (l1 : List Int) (r : Bool) (w : World) (hr0 : Kd.C (Kd.int .u32) w A0 l0.length l0) (hc0 : l0.length ≤ c0) (hr1 : Kd.C (Kd.int .u32) w A1 l1.length l1) (hc1 : l1.length ≤ c1) (h : offertoryref01_Cells.f k l0 l1 = some r) :
    Calls Tryd.prog 15 #[.slice A0 l0.length c0, .slice A1 l1.length c1] w fun e w' => e = .returned (.bool r) ∧ Drawn0 w w' := by
  have HR0 := Aside0.mk hr0
  have HC0 := Aside0.mk hc0
  clear hr0 hc0
  have HR1 := Aside0.mk hr1
  have HC1 := Aside0.mk hc1
  clear hr1 hc1
  have H : (if (l0.length : Int) = (l1.length : Int) then (offertoryref01_Cells.l0 k l0 l1 0) else (some false)) = some r := h
  clear h
  by_cases c3 : (l0.length : Int) = (l1.length : Int)
  · rw [if_pos c3] at H
    have c3b0 : ((l0.length : Int) == (l1.length : Int)) = true := beq_iff_eq.mpr c3
    have c3b1 : ((l0.length : Int) != (l1.length : Int)) = false := bne_eq_false_iff_eq.mpr c3
    have c3b2 : (l0.length == l1.length) = true := by first | simpa using c3 | (simp at c3 ⊢; omega)
    clear c3
    have H' := Aside0.mk H
    clear H
    go_enter Tryd.func15, Tryd.ntmps15
    go_wp2
    repeat (go_quiet (fail); try go_wp2)
    go_loopg [5] k (fun kq v5 w' => ∃ (x5_1 : Int), v5 = .int .i64 x5_1 ∧ Aside0 (offertoryref01_Cells.l0 kq l0 l1 x5_1 = some r) ∧ Aside0 (kq ≤ k) ∧ Drawn0 w w')
    case atStart => exact ⟨(0), (by first | rfl | (simp; done) | (simp [*]; done)), H', ⟨Nat.le_refl _⟩, by repeat (first | exact Drawn0.refl _ | apply Drawn0.step)⟩
    case round =>
      clear H'
      try clear c1
      try clear p2
      try clear c3
      try clear c3b0
      try clear c3b1
      try clear c3b2
      obtain ⟨x5_1, rfl, HA, HK1, ⟨m1, rfl⟩⟩ := hrel
      cases gk with
      | zero => exact absurd HA.out (by simp [offertoryref01_Cells.l0])
      | succ k1 =>
        have H := HA.out
        clear HA
        simp only [offertoryref01_Cells.l0] at H
        by_cases c4 : x5_1 < (l0.length : Int)
        · rw [if_pos c4] at H
          have c4b0 : decide (x5_1 < (l0.length : Int)) = true := decide_eq_true c4
          clear c4
          by_cases c5 : 0 ≤ x5_1
          · rw [if_pos c5] at H
            have c5b0 : decide (0 ≤ x5_1) = true := decide_eq_true c5
            clear c5
            by_cases c6 : x5_1 < (l1.length : Int)
            · rw [if_pos c6] at H
              have c6b0 : decide (x5_1 < (l1.length : Int)) = true := decide_eq_true c6
              clear c6
              by_cases c7 : (rd l0 x5_1) = (rd l1 x5_1)
              · rw [if_pos c7] at H
                have c7b0 : ((rd l0 x5_1) == (rd l1 x5_1)) = true := beq_iff_eq.mpr c7
                have c7b1 : ((rd l0 x5_1) != (rd l1 x5_1)) = false := bne_eq_false_iff_eq.mpr c7
                clear c7
                have H' := Aside0.mk H
                clear H
                have p204 : 0 ≤ (x5_1 : Int) := of_decide_eq_true (by first | (with_reducible assumption) | assumption)
                have q204 : x5_1 < (l0.length : Int) := of_decide_eq_true (by first | (with_reducible assumption) | assumption)
                obtain ⟨ad204, e204, hx204_0⟩ := Kd.at_int HR0.out x5_1 p204 q204
                cases e204
                replace p204 := eq_true p204
                replace q204 := eq_true q204
                have p205 : 0 ≤ (x5_1 : Int) := of_decide_eq_true (by first | (with_reducible assumption) | assumption)
                have q205 : x5_1 < (l1.length : Int) := of_decide_eq_true (by first | (with_reducible assumption) | assumption)
                obtain ⟨ad205, e205, hx205_0⟩ := Kd.at_int HR1.out x5_1 p205 q205
                cases e205
                replace p205 := eq_true p205
                replace q205 := eq_true q205
                go_wp2
                repeat (go_quiet (fail); try go_wp2)
                go_roundg k1
                case measure => have := HK1.out; omega
                case rel => exact ⟨(wrap64 (x5_1 + 1)), (by first | rfl | (simp; done) | (simp [*]; done)), H', ⟨by have := HK1.out; omega⟩, by repeat (first | exact Drawn0.refl _ | apply Drawn0.step)⟩
              · rw [if_neg c7] at H
                have c7b0 : ((rd l0 x5_1) == (rd l1 x5_1)) = false := beq_eq_false_iff_ne.mpr c7
                have c7b1 : ((rd l0 x5_1) != (rd l1 x5_1)) = true := bne_iff_ne.mpr c7
                obtain rfl := Option.some.inj H
                have p204 : 0 ≤ (x5_1 : Int) := of_decide_eq_true (by first | (with_reducible assumption) | assumption)
                have q204 : x5_1 < (l0.length : Int) := of_decide_eq_true (by first | (with_reducible assumption) | assumption)
                obtain ⟨ad204, e204, hx204_0⟩ := Kd.at_int HR0.out x5_1 p204 q204
                cases e204
                replace p204 := eq_true p204
                replace q204 := eq_true q204
                have p205 : 0 ≤ (x5_1 : Int) := of_decide_eq_true (by first | (with_reducible assumption) | assumption)
                have q205 : x5_1 < (l1.length : Int) := of_decide_eq_true (by first | (with_reducible assumption) | assumption)
                obtain ⟨ad205, e205, hx205_0⟩ := Kd.at_int HR1.out x5_1 p205 q205
                cases e205
                replace p205 := eq_true p205
                replace q205 := eq_true q205
                go_wp2
                repeat (go_quiet (fail); try go_wp2)
                go_ret
                exact ⟨by first | rfl | (simp; done) | (simp [*]; done), by repeat (first | exact Drawn0.refl _ | apply Drawn0.step)⟩
            · rw [if_neg c6] at H
              exact absurd H (by simp)
          · rw [if_neg c5] at H
            exact absurd H (by simp)
        · rw [if_neg c4] at H
          have c4b0 : decide (x5_1 < (l0.length : Int)) = false := decide_eq_false c4
          clear c4
          obtain rfl := Option.some.inj H
          go_wp2
          repeat (go_quiet (fail); try go_wp2)
          go_ret
          exact ⟨by first | rfl | (simp; done) | (simp [*]; done), by repeat (first | exact Drawn0.refl _ | apply Drawn0.step)⟩
  · rw [if_neg c3] at H
    have c3b0 : ((l0.length : Int) == (l1.length : Int)) = false := beq_eq_false_iff_ne.mpr c3
    have c3b1 : ((l0.length : Int) != (l1.length : Int)) = true := bne_iff_ne.mpr c3
    have c3b2 : (l0.length == l1.length) = false := by first | simpa using c3 | (simp at c3 ⊢; omega)
    obtain rfl := Option.some.inj H
    go_enter Tryd.func15, Tryd.ntmps15
    go_wp2
    repeat (go_quiet (fail); try go_wp2)
    go_ret
    exact ⟨by first | rfl | (simp; done) | (simp [*]; done), by repeat (first | exact Drawn0.refl _ | apply Drawn0.step)⟩

/-! ### offertorylaw25_IdealSees: function 4 -/
/-! ### IdealSees: what is seen, held against what it is to be -/
def sbit (s x : Int) : Bool := (offertorylaw25_in.f s x).getD false
theorem cells_rf (a : List Int) (h : a.length ≤ 1000000) : ∃ k, offertoryref01_Cells.f k a a = some true := by
  have key : ∀ d i : Nat, i + d = a.length → offertoryref01_Cells.l0 (d + 1) a a (i : Int) = some true := by
    intro d
    induction d with
    | zero =>
      intro i hi
      unfold offertoryref01_Cells.l0
      rw [if_neg (by omega)]
    | succ d ih =>
      intro i hi
      have e : wrap64 ((i : Int) + 1) = ((i + 1 : Nat) : Int) := by unfold wrap64; omega
      unfold offertoryref01_Cells.l0
      rw [if_pos (by omega), if_pos (by omega), if_pos (by omega), if_pos rfl, e]
      exact ih (i + 1) (by omega)
  refine ⟨a.length + 1, ?_⟩
  unfold offertoryref01_Cells.f
  rw [if_pos rfl]
  exact key a.length 0 (by omega)
def sAdd (l2 : List (List (List Int))) (s i c k v : Int) : Int :=
  if i < k then (if sbit s k = true then (v + rd (rdV (rdM l2 i) k) c) % 4294967296 else v)
  else if k < i then (if sbit s k = true then (v - rd (rdV (rdM l2 k) i) c) % 4294967296 else v) else v
def sSum (l0 l1 : List (List Int)) (l2 : List (List (List Int))) (s i c : Int) : Nat → Int
  | 0 => (rd (rdV l0 i) c + rd (rdV l1 i) c) % 4294967296
  | k + 1 => sAdd l2 s i c (k : Int) (sSum l0 l1 l2 s i c k)
def wG (l0 l1 : List (List Int)) (l2 : List (List (List Int))) (s : Int) (n nn : Nat) (i : Int) : List Int := if sbit s i = true then (List.range nn).map (fun c : Nat => sSum l0 l1 l2 s i (c : Int) n) else []
def wO (l1 : List (List Int)) (g i : Int) : List Int := if sbit g i = true then rdV l1 i else []
def wB (s g i k : Int) : Bool := decide (i < k) && (sbit s i && (sbit s k && !(sbit g i && sbit g k)))
def wL (l2 : List (List (List Int))) (s g i k : Int) : List Int := if wB s g i k = true then rdV (rdM l2 i) k else []
def SG (l0 l1 : List (List Int)) (l2 : List (List (List Int))) (s g : Int) (G O : List (List Int)) (L : List (List (List Int))) (n nn : Nat) : Prop :=
  (n ≤ 64 ∧ nn ≤ 1000) ∧ (l0.length = n ∧ l1.length = n ∧ l2.length = n ∧ G.length = n ∧ O.length = n ∧ L.length = n) ∧
  (∀ i : Nat, i < n → (rdV l0 i).length = nn ∧ (rdV l1 i).length = nn ∧ (rdM l2 i).length = n ∧ rdV G i = wG l0 l1 l2 s n nn i ∧ rdV O i = wO l1 g i ∧ (rdM L i).length = n ∧ offertorylaw25_in.f s i = some (sbit s i) ∧ offertorylaw25_in.f g i = some (sbit g i)) ∧
  ∀ i : Nat, i < n → ∀ k : Nat, k < n → ((i < k → (rdV (rdM l2 i) k).length = nn) ∧ rdV (rdM L i) k = wL l2 s g i k)
instance (l0 l1 : List (List Int)) (l2 : List (List (List Int))) (s g : Int) (G O : List (List Int)) (L : List (List (List Int))) (n nn : Nat) : Decidable (SG l0 l1 l2 s g G O L n nn) := by unfold SG; infer_instance
theorem SG.at {l0 l1 : List (List Int)} {l2 : List (List (List Int))} {s g : Int} {G O : List (List Int)} {L : List (List (List Int))} {n nn : Nat} (h : SG l0 l1 l2 s g G O L n nn) (x : Int) (h0 : 0 ≤ x) (h1 : x < n) : (rdV l0 x).length = nn ∧ (rdV l1 x).length = nn ∧ (rdM l2 x).length = n ∧ rdV G x = wG l0 l1 l2 s n nn x ∧ rdV O x = wO l1 g x ∧ (rdM L x).length = n ∧ offertorylaw25_in.f s x = some (sbit s x) ∧ offertorylaw25_in.f g x = some (sbit g x) := by
  have := h.2.2.1 x.toNat (by omega)
  rwa [Int.toNat_of_nonneg h0] at this
theorem SG.at2 {l0 l1 : List (List Int)} {l2 : List (List (List Int))} {s g : Int} {G O : List (List Int)} {L : List (List (List Int))} {n nn : Nat} (h : SG l0 l1 l2 s g G O L n nn) (x y : Int) (h0 : 0 ≤ x) (h1 : x < n) (g0 : 0 ≤ y) (g1 : y < n) : (x < y → (rdV (rdM l2 x) y).length = nn) ∧ rdV (rdM L x) y = wL l2 s g x y := by
  have := h.2.2.2 x.toNat (by omega) y.toNat (by omega)
  rw [Int.toNat_of_nonneg h0, Int.toNat_of_nonneg g0] at this
  exact ⟨fun h => this.1 (by omega), this.2⟩
theorem wG_len {l0 l1 : List (List Int)} {l2 : List (List (List Int))} {s : Int} {n nn : Nat} {i : Int} : (wG l0 l1 l2 s n nn i).length = if sbit s i = true then nn else 0 := by
  unfold wG
  split <;> simp
theorem sSum_step (l0 l1 : List (List Int)) (l2 : List (List (List Int))) (s i c k : Int) (h : 0 ≤ k) : sSum l0 l1 l2 s i c (k + 1).toNat = sAdd l2 s i c k (sSum l0 l1 l2 s i c k.toNat) := by
  rw [show (k + 1).toNat = k.toNat + 1 by omega]
  show sAdd l2 s i c ((k.toNat : Nat) : Int) _ = _
  rw [Int.toNat_of_nonneg h]
theorem wG_step {l0 l1 : List (List Int)} {l2 : List (List (List Int))} {s : Int} {n nn : Nat} {i c : Int} (h0 : 0 ≤ c) (h1 : c < nn) (hs : sbit s i = true) : (wG l0 l1 l2 s n nn i).take (c + 1).toNat = (wG l0 l1 l2 s n nn i).take c.toNat ++ [sSum l0 l1 l2 s i c n] := by
  unfold wG
  rw [if_pos hs, show (c + 1).toNat = c.toNat + 1 by omega, List.take_succ_eq_append_getElem (by simp; omega)]
  simp only [List.getElem_map, List.getElem_range]
  rw [Int.toNat_of_nonneg h0]
theorem cell_below {w W : World} {a : Addr} {v : Value} (h : w.cell? a = some v) (hb : Below w.heap.size w W) : W.cell? a = some v := by
  have := hb.block a.block (World.block_lt_of_cell? w a h)
  simpa [World.cell?, this] using h
theorem C_empty {w : World} {A : Option Addr} : (Kd.int .u32).C w A ([] : List Int).length [] := ⟨rfl, by simp, fun h => absurd h (Nat.lt_irrefl 0)⟩
def offertorylaw25_IdealSees.f (k : Nat) (l0 l1 : List (List Int)) (l2 : List (List (List Int))) (a2 a3 : Int) : Option Bool :=
  (ideal_See.f k l0 l1 l2 a2 a3).bind fun v => (offertorylaw25_check.f k l0 l1 l2 a2 a3).bind fun e => offertorylaw25_awake.f.bind fun t =>
    if t = true then (if e = 0 then (if v.2.2.2 = 0 ∧ SG l0 l1 l2 a2 a3 v.1 v.2.1 v.2.2.1 l0.length (rdV l0 0).length then some true else none) else (if v.2.2.2 = e ∧ v.1 = [] ∧ v.2.1 = [] ∧ v.2.2.1 = [] then some true else none)) else none
set_option maxHeartbeats 8000000 in
set_option maxRecDepth 100000 in
theorem offertorylaw25_IdealSees.calls (k : Nat) (A0 : Option Addr) (c0 : Nat) (l0 : List (List Int)) (A1_0 : Option Addr) (c1_0 : Nat) (l1_0 : List (List Int)) (A1_1 : Option Addr) (c1_1 : Nat) (l1_1 : List (List (List Int))) (a2 : Int) (a3 : Int) (r : Bool) (w : World) (hr0 : Kd.C (Kd.slice 37 (Kd.int .u32)) w A0 l0.length l0) (hc0 : l0.length ≤ c0) (hr1_0 : Kd.C (Kd.slice 37 (Kd.int .u32)) w A1_0 l1_0.length l1_0) (hc1_0 : l1_0.length ≤ c1_0) (hr1_1 : Kd.C (Kd.slice 35 (Kd.slice 37 (Kd.int .u32))) w A1_1 l1_1.length l1_1) (hc1_1 : l1_1.length ≤ c1_1) (hT : Tab w) (h : offertorylaw25_IdealSees.f k l0 l1_0 l1_1 a2 a3 = some r) :
    Calls Tryd.prog 4 #[.slice A0 l0.length c0, .agg #[.slice A1_0 l1_0.length c1_0, .slice A1_1 l1_1.length c1_1], .int .u64 a2, .int .u64 a3] w fun e w' => e = .returned (.bool r) ∧ Below w.heap.size w w' := by
  have hu25 := Tryd.underlying25
  have hu30 := Tryd.underlying30
  have HR0 := Aside0.mk hr0
  have HC0 := Aside0.mk hc0
  have HR1 := Aside0.mk hr1_0
  have HC1 := Aside0.mk hc1_0
  have HR2 := Aside0.mk hr1_1
  have HC2 := Aside0.mk hc1_1
  have HTab := Aside0.mk hT
  clear hr0 hc0 hr1_0 hc1_0 hr1_1 hc1_1 hT
  unfold offertorylaw25_IdealSees.f at h
  replace h := Option.bind_eq_some_iff.mp h
  obtain ⟨⟨G, O, L, e1⟩, A1, h⟩ := h
  replace h := Option.bind_eq_some_iff.mp h
  obtain ⟨e2, A2, h⟩ := h
  replace h := Option.bind_eq_some_iff.mp h
  obtain ⟨t, A3, h⟩ := h
  split at h
  case isFalse => cases h
  rename_i ht
  subst ht
  have HS := Aside0.mk h
  have A1' := Aside0.mk A1
  have A2' := Aside0.mk A2
  have A3' := Aside0.mk A3
  clear h A1 A2 A3
  go_enter Tryd.func4, Tryd.ntmps4
  go_upto_region 3 with (first
    | ((with_reducible refine gate_dst (N := 5) rfl ?_); (try (refine gate_guard (by rfl) ?_; dsimp only)); refine box_event ?hg (N := 5) ?hd (cs := #[.slice A1_0 l1_0.length c1_0, .slice A1_1 l1_1.length c1_1]) (t := 25) ?hr ?_; (case hd => rfl); (case hg => rfl); (case hr => first | (go_simp; done) | (go_simp; rfl)); intro g5 hg w5 hbox hb; have HB5 := Aside0.mk hb; have BK5 := Aside0.mk hbox; clear hb hbox hg; have hc5_0 : w5.cell? ⟨g5, 0, none⟩ = some (.slice A1_0 l1_0.length c1_0) := (blk_cell BK5.out 0).trans rfl; have hc5_1 : w5.cell? ⟨g5, 1, none⟩ = some (.slice A1_1 l1_1.length c1_1) := (blk_cell BK5.out 1).trans rfl)
    | (go_at_call 12; (with_reducible refine (ideal_See.calls k _ _ l0 _ _ l1_0 _ _ l1_1 a2 a3 G O L e1 _ ?s1 ?s2 ?s3 ?s4 ?s5 ?s6 (HTab.out.step HB5.out) A1'.out).mono ?_); (case s1 => exact Kd.C_below HR0.out HB5.out); (case s2 => exact HC0.out); (case s3 => exact Kd.C_below HR1.out HB5.out); (case s4 => exact HC1.out); (case s5 => exact Kd.C_below HR2.out HB5.out); (case s6 => exact HC2.out); rintro e w9 ⟨v0, v1, v2, rfl, ho0, ho1, ho2, hb⟩; obtain ⟨Ag, cg, rfl⟩ := Kd.R_slice ho0; obtain ⟨Ao, co, rfl⟩ := Kd.R_slice ho1; obtain ⟨Al, cl, rfl⟩ := Kd.R_slice ho2; have XG := Aside0.mk (Kd.R_reads' ho0).2; have XO := Aside0.mk (Kd.R_reads' ho1).2; have XL := Aside0.mk (Kd.R_reads' ho2).2; have HW := Aside0.mk (below_step HB5.out hb); have BK5' := Aside0.mk (blk_below BK5.out hb); clear BK5 HB5 hc5_0 hc5_1 ho0 ho1 ho2 hb; have HB := Aside0.mk (Below.refl w9.heap.size w9))
    | ((with_reducible refine gate_dst (N := 9) rfl ?_); (try (refine gate_guard (by rfl) ?_; dsimp only)); refine box_event ?hg (N := 9) ?hd (cs := #[.slice none 0 0, .slice none 0 0, .slice none 0 0]) (t := 30) ?hr ?_; (case hd => rfl); (case hg => rfl); (case hr => first | (go_simp; done) | (go_simp; rfl)); intro g9 hg w10 hbox hb; have GE9 := Aside0.mk ((by rw [hg]; exact below_size HB.out) : w9.heap.size ≤ g9); have hnb : g9 ≠ g5 := (by have := blk_lt BK5'.out; have := GE9.out; omega); have hnc : g5 ≠ g9 := (by have := blk_lt BK5'.out; have := GE9.out; omega); have HB2 := Aside0.mk (below_step HB.out hb); clear HB; have HB := HB2; clear HB2; have BK9 := Aside0.mk hbox; have BK5 := Aside0.mk (blk_below BK5'.out HB.out); clear hb hbox hg; have hc9_0 : w10.cell? ⟨g9, 0, none⟩ = some (.slice none 0 0) := (blk_cell BK9.out 0).trans rfl; have hc9_1 : w10.cell? ⟨g9, 1, none⟩ = some (.slice none 0 0) := (blk_cell BK9.out 1).trans rfl; have hc9_2 : w10.cell? ⟨g9, 2, none⟩ = some (.slice none 0 0) := (blk_cell BK9.out 2).trans rfl; have hf9_0 := blk_frozen BK9.out 0; have hf9_1 := blk_frozen BK9.out 1; have hf9_2 := blk_frozen BK9.out 2; have hc5_0 : w10.cell? ⟨g5, 0, none⟩ = some (.slice A1_0 l1_0.length c1_0) := (blk_cell BK5.out 0).trans rfl; have hc5_1 : w10.cell? ⟨g5, 1, none⟩ = some (.slice A1_1 l1_1.length c1_1) := (blk_cell BK5.out 1).trans rfl)
    | (go_at_call 13; (with_reducible refine (offertorylaw25_check.calls k _ _ l0 _ _ l1_0 _ _ l1_1 a2 a3 e2 _ ?s1 ?s2 ?s3 ?s4 ?s5 ?s6 A2'.out).mono ?_); (case s1 => exact Kd.C_below (Kd.C_below HR0.out HW.out) (by repeat (first | exact HB.out | refine below_set ?_ GE9.out))); (case s2 => exact HC0.out); (case s3 => exact Kd.C_below (Kd.C_below HR1.out HW.out) (by repeat (first | exact HB.out | refine below_set ?_ GE9.out))); (case s4 => exact HC1.out); (case s5 => exact Kd.C_below (Kd.C_below HR2.out HW.out) (by repeat (first | exact HB.out | refine below_set ?_ GE9.out))); (case s6 => exact HC2.out); rintro e w13 ⟨rfl, hb⟩; have BKn : Aside0 (w13.heap[g9]? = some (.cells #[.slice Ag G.length cg, .slice Ao O.length co, .slice Al L.length cl] 30 (0, 0))) := ⟨(blk_below (blk_set (blk_set (blk_set BK9.out 0 (.slice Ag G.length cg)) 1 (.slice Ao O.length co)) 2 (.slice Al L.length cl)) hb).trans rfl⟩; have HB3 := Aside0.mk (below_step (by repeat (first | exact HB.out | refine below_set ?_ GE9.out)) hb); clear hb BK5 BK9 HB hc9_0 hc9_1 hc9_2 hf9_0 hf9_1 hf9_2 hc5_0 hc5_1))
  have R0 := Aside0.mk (Kd.C_below (Kd.C_below HR0.out HW.out) HB3.out)
  have R1 := Aside0.mk (Kd.C_below (Kd.C_below HR1.out HW.out) HB3.out)
  have R2 := Aside0.mk (Kd.C_below (Kd.C_below HR2.out HW.out) HB3.out)
  have RG := Aside0.mk (And.intro XG.out.1 (Kd.C_below XG.out.2 HB3.out))
  have RO := Aside0.mk (And.intro XO.out.1 (Kd.C_below XO.out.2 HB3.out))
  have RL := Aside0.mk (And.intro XL.out.1 (Kd.C_below XL.out.2 HB3.out))
  have B5 := Aside0.mk (blk_below BK5'.out HB3.out)
  have HWw := Aside0.mk (below_step HW.out HB3.out)
  have HT := Aside0.mk (HTab.out.step HWw.out)
  clear HR0 HR1 HR2 XG XO XL BK5' HTab A1' A2' HW HB3 GE9 hnb hnc
  have B9 := BKn
  clear BKn
  have hc5_0 : w13.cell? ⟨g5, 0, none⟩ = some (.slice A1_0 l1_0.length c1_0) := (blk_cell B5.out 0).trans rfl
  have hc5_1 : w13.cell? ⟨g5, 1, none⟩ = some (.slice A1_1 l1_1.length c1_1) := (blk_cell B5.out 1).trans rfl
  have hc9_0 : w13.cell? ⟨g9, 0, none⟩ = some (.slice Ag G.length cg) := (blk_cell B9.out 0).trans rfl
  have hc9_1 : w13.cell? ⟨g9, 1, none⟩ = some (.slice Ao O.length co) := (blk_cell B9.out 1).trans rfl
  have hc9_2 : w13.cell? ⟨g9, 2, none⟩ = some (.slice Al L.length cl) := (blk_cell B9.out 2).trans rfl
  have h := HS.out
  clear HS
  by_cases z : e2 = 0
  · subst z
    rw [if_pos rfl] at h
    split at h
    case isFalse => cases h
    rename_i hs
    obtain rfl := Option.some.inj h
    obtain ⟨e10, hS⟩ := hs
    subst e10
    generalize (rdV l0 0).length = nn at hS
    obtain ⟨⟨n64, nn1⟩, ⟨_, q1, q2, qG, qO, qL⟩, _⟩ := id hS
    have HS := Aside0.mk hS
    have N1 := Aside0.mk (And.intro n64 nn1)
    clear h hS n64 nn1
    rw [q1] at hc5_0
    rw [q2] at hc5_1
    rw [qG] at hc9_0
    rw [qO] at hc9_1
    rw [qL] at hc9_2
    go_wp2
    clear hc5_0 hc5_1 hc9_0 hc9_1 hc9_2
    have QL := Aside0.mk (And.intro q1 (And.intro q2 (And.intro qG (And.intro qO qL))))
    clear q1 q2 qG qO qL
    go_loopg [13] l0.length (fun kq v13 W => ∃ x : Int, v13 = .int .i64 x ∧ Aside0 (0 ≤ x ∧ x + (kq : Int) = (l0.length : Int)) ∧ Aside0 (Below w13.heap.size w13 W))
    case atStart => exact ⟨0, rfl, ⟨by omega⟩, ⟨Below.refl _ _⟩⟩
    case round =>
      obtain ⟨x, rfl, HX, HB⟩ := hrel
      by_cases gz : gk = 0
      · as_aux_lemma =>
          subst gz
          have c1 : decide (x < (l0.length : Int)) = false := decide_eq_false (by have := HX.out; omega)
          go_wp2_with (first | (go_at_call 9; (with_reducible refine (offertorylaw25_awake.calls true _ (HT.out.step HB.out) A3'.out).mono ?_); rintro e w14 ⟨rfl, hb⟩; have HB2 := Aside0.mk hb; clear hb))
          go_ret
          exact ⟨by first | rfl | (simp; done) | (simp [*]; done), below_step HWw.out (below_step HB.out HB2.out)⟩
      · obtain ⟨k1, rfl⟩ : ∃ k1, gk = k1 + 1 := ⟨gk - 1, by omega⟩
        have x0 := HX.out.1
        have x1 : x < (l0.length : Int) := by have := HX.out.2; omega
        obtain ⟨sa, sb_, sc, sd, se, sf, sg, sh⟩ := HS.out.at x x0 x1
        obtain ⟨d0, A20, c20, rfl, y0, l20, C20⟩ := at_V R0.out x x0 x1
        obtain ⟨d1, A21, c21, rfl, y1, l21, C21⟩ := at_V R1.out x x0 (by rw [QL.out.1]; exact x1)
        obtain ⟨d2, A22, c22, rfl, y2, l22, C22⟩ := at_M R2.out x x0 (by rw [QL.out.2.1]; exact x1)
        obtain ⟨dG, A2G, c2G, rfl, yG, lG, CG⟩ := at_V RG.out.2 x x0 (by rw [QL.out.2.2.1]; exact x1)
        obtain ⟨dO, A2O, c2O, rfl, yO, lO, CO⟩ := at_V RO.out.2 x x0 (by rw [QL.out.2.2.2.1]; exact x1)
        obtain ⟨dL, A2L, c2L, rfl, yL, lL, CL⟩ := at_M RL.out.2 x x0 (by rw [QL.out.2.2.2.2]; exact x1)
        have b5_0 : w13.cell? ⟨g5, 0, none⟩ = some (.slice (some d1) l0.length c1_0) := (blk_cell B5.out 0).trans (by rw [QL.out.1]; rfl)
        have b5_1 : w13.cell? ⟨g5, 1, none⟩ = some (.slice (some d2) l0.length c1_1) := (blk_cell B5.out 1).trans (by rw [QL.out.2.1]; rfl)
        have b9_0 : w13.cell? ⟨g9, 0, none⟩ = some (.slice (some dG) l0.length cg) := (blk_cell B9.out 0).trans (by rw [QL.out.2.2.1]; rfl)
        have b9_1 : w13.cell? ⟨g9, 1, none⟩ = some (.slice (some dO) l0.length co) := (blk_cell B9.out 1).trans (by rw [QL.out.2.2.2.1]; rfl)
        have b9_2 : w13.cell? ⟨g9, 2, none⟩ = some (.slice (some dL) l0.length cl) := (blk_cell B9.out 2).trans (by rw [QL.out.2.2.2.2]; rfl)
        obtain ⟨wg, ewg⟩ : ∃ l, l = wG l0 l1_0 l1_1 a2 l0.length nn x := ⟨_, rfl⟩
        obtain ⟨wo, ewo⟩ : ∃ l, l = wO l1_0 a3 x := ⟨_, rfl⟩
        rw [← ewg] at sd
        rw [← ewo] at se
        rw [sd] at yG lG CG
        rw [se] at yO lO CO
        rw [sa] at y0
        rw [sc] at y2
        rw [sf] at yL
        have Y0 := Aside0.mk y0
        have Y1 := Aside0.mk y1
        have Y2 := Aside0.mk y2
        have YG := Aside0.mk (And.intro yG (And.intro lG CG))
        have YO := Aside0.mk (And.intro yO (And.intro lO CO))
        have YL := Aside0.mk (And.intro yL (And.intro lL CL))
        have K0 := Aside0.mk C20
        have K1 := Aside0.mk (And.intro l21 C21)
        have K2 := Aside0.mk C22
        have D5 := Aside0.mk (And.intro b5_0 b5_1)
        have D9 := Aside0.mk (And.intro b9_0 (And.intro b9_1 b9_2))
        have LX := Aside0.mk (And.intro sa (And.intro sb_ (And.intro sc sf)))
        have EG := Aside0.mk ewg
        have EO := Aside0.mk ewo
        have c1 : decide (x < (l0.length : Int)) = true := decide_eq_true x1
        have p0 := eq_true x0
        have p1 := eq_true x1
        obtain ⟨bs, ebs⟩ : ∃ b, b = sbit a2 x := ⟨_, rfl⟩
        obtain ⟨bg, ebg⟩ : ∃ b, b = sbit a3 x := ⟨_, rfl⟩
        rw [← ebs] at sg
        rw [← ebg] at sh
        have IS := Aside0.mk sg
        have IG := Aside0.mk sh
        have EB := Aside0.mk (And.intro ebs ebg)
        clear gz sa sb_ sc sd se sf sg sh x0 x1 y0 y1 y2 yG yO yL l20 l21 l22 lG lO lL C20 C21 C22 CG CO CL b5_0 b5_1 b9_0 b9_1 b9_2 ewg ewo ebs ebg
        go_upto_if 90 with (first
          | ((with_reducible refine gate_dst (N := 86) rfl ?_); (try (refine gate_guard (by rfl) ?_; dsimp only)); refine Kd.R_lit (Kd.int .u32) _ 37 ?hg (N := 86) ?hd (xs := ([] : List Int)) (inner := []) (ok := fun _ => True) (okp := fun _ => True) ?hr ?hp (fun _ hk => hk) trivial (Below.refl _ _) (Nat.le_refl _) (by simp) ?_; (case hd => rfl); (case hg => rfl); (case hr => first | (go_simp; done) | (go_simp; rfl)); (case hp => exact (Reps.none _ _)); intro v86 w35 ho hb hg_ hnew_; clear hg_ hnew_; obtain ⟨A14, c14, rfl⟩ := Kd.R_slice ho; have HO14 := Aside0.mk (Kd.R_lower ho (below_size HB.out)); have HB2 := Aside0.mk (below_step HB.out hb); clear HB ho hb; have HB := HB2; clear HB2)
          | ((with_reducible refine gate_dst (N := 87) rfl ?_); (try (refine gate_guard (by rfl) ?_; dsimp only)); refine Kd.R_lit (Kd.int .u32) _ 37 ?hg (N := 87) ?hd (xs := ([] : List Int)) (inner := []) (ok := fun _ => True) (okp := fun _ => True) ?hr ?hp (fun _ hk => hk) trivial (Below.refl _ _) (Nat.le_refl _) (by simp) ?_; (case hd => rfl); (case hg => rfl); (case hr => first | (go_simp; done) | (go_simp; rfl)); (case hp => exact (Reps.none _ _)); intro v87 w36 ho hb hg_ hnew_; clear hg_ hnew_; obtain ⟨A15, c15, rfl⟩ := Kd.R_slice ho; clear ho; have HO2 := Aside0.mk (Kd.R_below HO14.out hb); have HB2 := Aside0.mk (below_step HB.out hb); clear HB HO14 hb; have HB := HB2; have HO14 := HO2; clear HB2 HO2)
          | (go_at_call 14; (with_reducible refine (offertorylaw25_in.calls a3 x bg _ IG.out).mono ?_); rintro e w37 ⟨rfl, hd⟩; have hb := hd.below; have HO2 := Aside0.mk (Kd.R_below HO14.out hb); have HB2 := Aside0.mk (below_step HB.out hb); clear HB HO14 hb hd; have HB := HB2; have HO14 := HO2; clear HB2 HO2))
        go_cut [15] (fun v15 wc => ∃ (A15 : Option Addr) (c15 : Nat), v15 = .slice A15 wo.length c15 ∧ Aside0 (wo.length ≤ c15) ∧ Aside0 (∀ W, Below w13.heap.size w13 W → (Kd.int .u32).C W A15 wo.length wo) ∧ Aside0 (Below w13.heap.size w13 wc) ∧ Aside0 ((Kd.int .u32).R 37 wc w13.heap.size (fun _ => True) (.slice A14 ([] : List Int).length c14) []))
        case first =>
          as_aux_lemma =>
            cases bg
            · have e : wo = [] := by rw [EO.out]; unfold wO; rw [← EB.out.2]; rfl
              subst e
              go_wp2
              go_meet
              case rel => exact ⟨A15, c15, rfl, ⟨Nat.zero_le _⟩, ⟨fun _ _ => C_empty⟩, HB, HO14⟩
            · have e : wo = rdV l1_0 x := by rw [EO.out]; unfold wO; rw [← EB.out.2]; rfl
              have z1 := cell_below D5.out.1 HB.out
              have z2 := cell_below D5.out.2 HB.out
              have z3 := cell_below Y1.out HB.out
              rw [← e] at z3
              go_wp2
              go_meet
              case rel => exact ⟨A21, c21, by rw [e], ⟨by rw [e]; exact K1.out.1⟩, ⟨fun W hW => by rw [e]; exact Kd.C_below K1.out.2 hW⟩, HB, HO14⟩
        case rest =>
          clear HO14 HB
          obtain ⟨A15, c15, rfl, W15, K15, HB, HO14⟩ := hcut
          have EL : Aside0 (wg.length = if bs = true then nn else 0) := ⟨by rw [EG.out, wG_len, ← EB.out.1]⟩
          go_wp2
          go_loopg [14, 16] wg.length (fun kq v14 v16 W => ∃ (A14 : Option Addr) (c14 : Nat) (y : Int) (ys : List Int), v14 = .slice A14 ys.length c14 ∧ v16 = .int .i64 y ∧ Aside0 (0 ≤ y ∧ y + (kq : Int) = (wg.length : Int)) ∧ Aside0 (ys = wg.take y.toNat) ∧ Aside0 ((Kd.int .u32).R 37 W w13.heap.size (fun _ => True) (.slice A14 ys.length c14) ys) ∧ Aside0 (Below w13.heap.size w13 W))
          case atStart => exact ⟨A14, c14, 0, [], rfl, rfl, ⟨by omega⟩, ⟨rfl⟩, HO14, HB⟩
          case round =>
            clear HO14 HB
            obtain ⟨A14, c14, y, ys, rfl, rfl, HY, EY, HO14, HB⟩ := hrel
            have z0 := cell_below Y0.out HB.out
            go_upto_region 15 with fail
            go_cut [107] (fun v107 wc => v107 = .bool (decide (y < (wg.length : Int))) ∧ Aside0 ((Kd.int .u32).R 37 wc w13.heap.size (fun _ => True) (.slice A14 ys.length c14) ys) ∧ Aside0 (Below w13.heap.size w13 wc))
            case first =>
              by_cases cy : y < (nn : Int)
              · as_aux_lemma =>
                  have cyb : decide (y < (nn : Int)) = true := decide_eq_true cy
                  have e : decide (y < (wg.length : Int)) = bs := by
                    rw [EL.out]
                    cases bs
                    · exact decide_eq_false (by have := HY.out.1; rw [if_neg (by decide)]; omega)
                    · exact decide_eq_true (by rw [if_pos rfl]; omega)
                  have E := Aside0.mk e
                  clear e cy
                  go_wp2_with (first | (go_at_call 14; (with_reducible refine (offertorylaw25_in.calls a2 x bs _ IS.out).mono ?_); rintro e w37 ⟨rfl, hd⟩; have hb := hd.below; have HO2 := Aside0.mk (Kd.R_below HO14.out hb); have HB2 := Aside0.mk (below_step HB.out hb); clear HB HO14 hb hd; have HB := HB2; have HO14 := HO2; clear HB2 HO2))
                  go_meet
                  case rel => exact ⟨by rw [E.out], HO14, HB⟩
              · as_aux_lemma =>
                  have cyb : decide (y < (nn : Int)) = false := decide_eq_false cy
                  have e : decide (y < (wg.length : Int)) = false := by
                    rw [EL.out]
                    cases bs
                    · exact decide_eq_false (by have := HY.out.1; rw [if_neg (by decide)]; omega)
                    · exact decide_eq_false (by rw [if_pos rfl]; omega)
                  have E := Aside0.mk e
                  clear e cy
                  go_wp2
                  go_meet
                  case rel => exact ⟨by rw [E.out], HO14, HB⟩
            case rest =>
              clear z0 HO14 HB
              obtain ⟨rfl, HO14, HB⟩ := hcut
              by_cases cm : y < (wg.length : Int)
              · rw [decide_eq_true cm]
                obtain ⟨k2, rfl⟩ : ∃ k2, gk = k2 + 1 := ⟨gk - 1, by have := HY.out; omega⟩
                have hbs : bs = true := by
                  have := EL.out
                  cases bs
                  · rw [if_neg (by decide)] at this
                    have := HY.out.1
                    omega
                  · rfl
                subst hbs
                have elen : wg.length = nn := by have := EL.out; rwa [if_pos rfl] at this
                have EN := Aside0.mk elen
                have y0 := HY.out.1
                have y1 : y < (nn : Int) := by omega
                clear elen
                obtain ⟨e0, rfl, v0⟩ := Kd.at_int K0.out y y0 (by rw [LX.out.1]; exact y1)
                obtain ⟨e1, rfl, v1⟩ := Kd.at_int K1.out.2 y y0 (by rw [LX.out.2.1]; exact y1)
                have V0 := Aside0.mk v0
                have V1 := Aside0.mk v1
                have z1 := cell_below D5.out.1 HB.out
                have z2 := cell_below D5.out.2 HB.out
                have z3 := cell_below Y0.out HB.out
                have z4 := cell_below Y1.out HB.out
                rw [LX.out.2.1] at z4
                have z5 := cell_below v0 HB.out
                have z6 := cell_below v1 HB.out
                have YY := Aside0.mk (And.intro y0 y1)
                replace y0 := eq_true y0
                replace y1 := eq_true y1
                clear v0 v1 cm
                obtain ⟨S, eS⟩ : ∃ S, S = sSum l0 l1_0 l1_1 a2 x y := ⟨_, rfl⟩
                have e0 : S (0 : Int).toNat = (rd (rdV l0 x) y + rd (rdV l1_0 x) y) % 4294967296 := by rw [eS]; rfl
                have ES := Aside0.mk eS
                have E0 := Aside0.mk e0
                clear eS e0
                go_wp2
                go_quiet (fail)
                go_wp2
                go_loopg [17, 18] l0.length (fun kq v17 v18 W => ∃ z : Int, v17 = .int .u32 (S z.toNat) ∧ v18 = .int .i64 z ∧ Aside0 (0 ≤ z ∧ z + (kq : Int) = (l0.length : Int)) ∧ Aside0 ((Kd.int .u32).R 37 W w13.heap.size (fun _ => True) (.slice A14 ys.length c14) ys) ∧ Aside0 (Below w13.heap.size w13 W))
                case atStart => exact ⟨0, by rw [E0.out], rfl, ⟨by omega⟩, ⟨by (with_reducible repeat (first | apply Kd.R_alloc | apply Kd.R_drewN | apply Kd.R_drew)); exact HO14.out⟩, ⟨by repeat (first | exact HB.out | apply pw_below_drewN | apply below_drew1)⟩⟩
                case round =>
                  as_aux_lemma =>
                    clear HO14 HB z1 z2 z3 z4 z5 z6 V0 V1 y0 y1
                    obtain ⟨z, rfl, rfl, HZ, HO14, HB⟩ := hrel
                    by_cases gz : gk = 0
                    · as_aux_lemma =>
                        subst gz
                        have hz : z = (l0.length : Int) := by have := HZ.out; omega
                        have c2 : decide (z < (l0.length : Int)) = false := decide_eq_false (by omega)
                        obtain ⟨sv, esv⟩ : ∃ v, v = S z.toNat := ⟨_, rfl⟩
                        rw [← esv]
                        have hsv : sv = sSum l0 l1_0 l1_1 a2 x y l0.length := by rw [esv, ES.out, hz]; rfl
                        obtain ⟨ys2, ey2⟩ : ∃ l, l = ys ++ [sv] := ⟨_, rfl⟩
                        have EY2 : Aside0 (ys2 = wg.take (y + 1).toNat) := ⟨by rw [ey2, EY.out, EG.out, hsv]; exact (wG_step YY.out.1 YY.out.2 EB.out.1.symm).symm⟩
                        have HY2 := Aside0.mk ey2
                        have LY : Aside0 (ys.length ≤ 1000) := ⟨by rw [EY.out, List.length_take]; have := EN.out; have := N1.out.2; omega⟩
                        have EW : Aside0 (wrap64 (y + 1) = y + 1) := ⟨by have := YY.out; have := N1.out.2; unfold wrap64; omega⟩
                        clear hz esv hsv ey2
                        go_wp2_with (first | ((with_reducible refine gate_builtin (b := .append) (xs := #[.tmp 173, .tmp 175]) rfl ?_); (try (refine gate_guard (by rfl) ?_; dsimp only)); at_builtin; refine Kd.R_append (Kd.int .u32) (w0 := w13) w13.heap.size rfl (.tmp 173) (.tmp 175) 35 37 (.int .u32 0) 4 rfl Tryd.underlying35 info37 rfl (by decide) (by omega) (.slice A14 ys.length c14) ys sv [.int .u32 sv] (fun _ => True) (fun _ => False) rfl rfl ?aP (fun _ hk => hk.elim) ?aF ?aO ?aB ?aS ?aL ?_; (case aP => exact rfl); (case aB => exact HB.out); (case aF => exact (fun _ _ => trivial)); (case aO => exact HO14.out); (case aS => exact below_size HB.out); (case aL => have := LY.out; omega); intro v236 w90 ho hb hg hat; rw [← HY2.out] at ho; obtain ⟨A16, c16, rfl⟩ := Kd.R_slice ho; have HO16 := Aside0.mk ho; have HB2 := Aside0.mk hb; clear ho hb hg hat HB HO14))
                        go_roundg k2
                        case measure => omega
                        case rel => exact ⟨A16, c16, y + 1, ys2, rfl, by rw [EW.out], ⟨by have := HY.out; omega⟩, EY2, HO16, HB2⟩
                    · obtain ⟨k3, rfl⟩ : ∃ k3, gk = k3 + 1 := ⟨gk - 1, by omega⟩
                      have z0 := HZ.out.1
                      have zn : z < (l0.length : Int) := by have := HZ.out.2; omega
                      have c2 : decide (z < (l0.length : Int)) = true := decide_eq_true zn
                      have x0 := HX.out.1
                      have x1 : x < (l0.length : Int) := by have := HX.out.2; omega
                      obtain ⟨_, _, szc, _, _, _, szg, _⟩ := HS.out.at z z0 zn
                      obtain ⟨szp, _⟩ := HS.out.at2 x z x0 x1 z0 zn
                      obtain ⟨szq, _⟩ := HS.out.at2 z x z0 zn x0 x1
                      obtain ⟨bz, ebz⟩ : ∃ b, b = sbit a2 z := ⟨_, rfl⟩
                      rw [← ebz] at szg
                      have IZ := Aside0.mk szg
                      have EW : Aside0 (wrap64 (z + 1) = z + 1) := ⟨by have := N1.out.1; unfold wrap64; omega⟩
                      have est := sSum_step l0 l1_0 l1_1 a2 x y z z0
                      rw [← ES.out] at est
                      have y0 := eq_true YY.out.1
                      have y1 := eq_true YY.out.2
                      obtain ⟨sv, esv⟩ : ∃ v, v = S z.toNat := ⟨_, rfl⟩
                      rw [← esv] at est ⊢
                      unfold sAdd at est
                      rw [← ebz] at est
                      clear gz szg esv ebz
                      rcases Int.lt_trichotomy x z with hxz | hxz | hxz
                      · have c3 : decide (x < z) = true := decide_eq_true hxz
                        have c4 : decide (z < x) = false := decide_eq_false (by omega)
                        rw [if_pos hxz] at est
                        cases bz
                        · as_aux_lemma =>
                            rw [if_neg (by decide)] at est
                            have EST := Aside0.mk est
                            clear est hxz szc szp szq z0 zn x0 x1 y0 y1
                            go_wp2_with (first | (go_at_call 14; (with_reducible refine (offertorylaw25_in.calls a2 z _ _ IZ.out).mono ?_); rintro e w37 ⟨rfl, hd⟩; have hb := hd.below; have HO2 := Aside0.mk (Kd.R_below HO14.out hb); have HB2 := Aside0.mk (below_step HB.out hb); have z1 := cell_below D5.out.1 HB2.out; have z2 := cell_below D5.out.2 HB2.out;  clear HB HO14 hb hd; have HB := HB2; have HO14 := HO2; clear HB2 HO2))
                            go_roundg k3
                            case measure => omega
                            case rel => exact ⟨z + 1, by rw [EST.out], by rw [EW.out], ⟨by have := HZ.out; omega⟩, HO14, HB⟩
                        · as_aux_lemma =>
                            rw [if_pos rfl] at est
                            obtain ⟨dz, A4, c4', rfl, y4, l4, C4⟩ := at_V K2.out z z0 (by rw [LX.out.2.2.1]; exact zn)
                            obtain ⟨d5, rfl, v5⟩ := Kd.at_int C4 y YY.out.1 (by rw [szp hxz]; exact YY.out.2)
                            rw [szp hxz] at y4
                            have Y4 := Aside0.mk y4
                            have V5 := Aside0.mk v5
                            have EST := Aside0.mk est
                            replace z0 := eq_true z0
                            replace zn := eq_true zn
                            clear est hxz szc szp szq x0 x1 y4 l4 C4 v5
                            go_wp2_with (first | (go_at_call 14; (with_reducible refine (offertorylaw25_in.calls a2 z _ _ IZ.out).mono ?_); rintro e w37 ⟨rfl, hd⟩; have hb := hd.below; have HO2 := Aside0.mk (Kd.R_below HO14.out hb); have HB2 := Aside0.mk (below_step HB.out hb); have z1 := cell_below D5.out.1 HB2.out; have z2 := cell_below D5.out.2 HB2.out; have z3 := cell_below Y2.out HB2.out; have z4 := cell_below Y4.out HB2.out; have z5 := cell_below V5.out HB2.out; clear HB HO14 hb hd; have HB := HB2; have HO14 := HO2; clear HB2 HO2))
                            go_roundg k3
                            case measure => omega
                            case rel => exact ⟨z + 1, by rw [EST.out], by rw [EW.out], ⟨by have := HZ.out; omega⟩, HO14, HB⟩
                      · as_aux_lemma =>
                          have c3 : decide (x < z) = false := decide_eq_false (by omega)
                          have c4 : decide (z < x) = false := decide_eq_false (by omega)
                          rw [if_neg (by omega), if_neg (by omega)] at est
                          have EST := Aside0.mk est
                          clear est hxz szc szp szq z0 zn x0 x1 y0 y1
                          go_wp2
                          go_roundg k3
                          case measure => omega
                          case rel => exact ⟨z + 1, by rw [EST.out], by rw [EW.out], ⟨by have := HZ.out; omega⟩, HO14, HB⟩
                      · as_aux_lemma =>
                          have c3 : decide (x < z) = false := decide_eq_false (by omega)
                          have c4 : decide (z < x) = true := decide_eq_true hxz
                          rw [if_neg (by omega), if_pos hxz] at est
                          cases bz
                          · as_aux_lemma =>
                              rw [if_neg (by decide)] at est
                              have EST := Aside0.mk est
                              clear est hxz szc szp szq z0 zn x0 x1 y0 y1
                              go_wp2_with (first | (go_at_call 14; (with_reducible refine (offertorylaw25_in.calls a2 z _ _ IZ.out).mono ?_); rintro e w37 ⟨rfl, hd⟩; have hb := hd.below; have HO2 := Aside0.mk (Kd.R_below HO14.out hb); have HB2 := Aside0.mk (below_step HB.out hb); have z1 := cell_below D5.out.1 HB2.out; have z2 := cell_below D5.out.2 HB2.out;  clear HB HO14 hb hd; have HB := HB2; have HO14 := HO2; clear HB2 HO2))
                              go_roundg k3
                              case measure => omega
                              case rel => exact ⟨z + 1, by rw [EST.out], by rw [EW.out], ⟨by have := HZ.out; omega⟩, HO14, HB⟩
                          · as_aux_lemma =>
                              rw [if_pos rfl] at est
                              obtain ⟨dq, A4, c4', eq4, y4, l4, C4⟩ := at_M R2.out z z0 (by rw [QL.out.2.1]; exact zn)
                              cases eq4
                              rw [szc] at y4
                              obtain ⟨dz, A6, c6', rfl, y6, l6, C6⟩ := at_V C4 x x0 (by rw [szc]; exact x1)
                              obtain ⟨d5, rfl, v5⟩ := Kd.at_int C6 y YY.out.1 (by rw [szq hxz]; exact YY.out.2)
                              rw [szq hxz] at y6
                              have Y4 := Aside0.mk y4
                              have Y6 := Aside0.mk y6
                              have V5 := Aside0.mk v5
                              have EST := Aside0.mk est
                              replace z0 := eq_true z0
                              replace zn := eq_true zn
                              clear est hxz szc szp szq x0 x1 y4 y6 l4 l6 C4 C6 v5
                              go_wp2_with (first | (go_at_call 14; (with_reducible refine (offertorylaw25_in.calls a2 z _ _ IZ.out).mono ?_); rintro e w37 ⟨rfl, hd⟩; have hb := hd.below; have HO2 := Aside0.mk (Kd.R_below HO14.out hb); have HB2 := Aside0.mk (below_step HB.out hb); have z1 := cell_below D5.out.1 HB2.out; have z2 := cell_below D5.out.2 HB2.out; have z4 := cell_below Y4.out HB2.out; have z6 := cell_below Y6.out HB2.out; have z5 := cell_below V5.out HB2.out; clear HB HO14 hb hd; have HB := HB2; have HO14 := HO2; clear HB2 HO2))
                              go_roundg k3
                              case measure => omega
                              case rel => exact ⟨z + 1, by rw [EST.out], by rw [EW.out], ⟨by have := HZ.out; omega⟩, HO14, HB⟩
              · rw [decide_eq_false cm]
                have hy : y = (wg.length : Int) := by have := HY.out; omega
                have ey : ys = wg := by rw [EY.out, hy]; exact List.take_of_length_le (by omega)
                clear hy cm
                subst ey
                obtain ⟨kg, hkg⟩ := cells_rf ys (by have h1 := EL.out; have h2 := N1.out.2; split at h1 <;> omega)
                obtain ⟨ko, hko⟩ := cells_rf wo (by rw [EO.out]; unfold wO; split; rw [LX.out.2.1]; have := N1.out.2; omega; simp)
                have HKG := Aside0.mk hkg
                have HKO := Aside0.mk hko
                clear hkg hko
                have z1 := cell_below D9.out.1 HB.out
                have z2 := cell_below D9.out.2.1 HB.out
                have z3 := cell_below D9.out.2.2 HB.out
                have z4 := cell_below YG.out.1 HB.out
                go_wp2_with (first
                  | (go_at_call 15; (with_reducible refine (offertoryref01_Cells.calls kg _ _ ys _ _ ys true _ ?s1 ?s2 ?s3 ?s4 HKG.out).mono ?_); (case s1 => exact Kd.C_below YG.out.2.2 HB.out); (case s2 => exact YG.out.2.1); (case s3 => exact (Kd.R_reads' HO14.out).2.2); (case s4 => exact (Kd.R_reads' HO14.out).2.1); rintro e w41 ⟨rfl, hd⟩; have hb := hd.below; have HB2 := Aside0.mk (below_step HB.out hb); clear HB hb hd; have HB := HB2; clear HB2; have y1 := cell_below D9.out.1 HB.out; have y2 := cell_below D9.out.2.1 HB.out; have y3 := cell_below D9.out.2.2 HB.out; have y4 := cell_below YO.out.1 HB.out)
                  | (go_at_call 15; ((with_reducible refine (offertoryref01_Cells.calls ko _ _ wo _ _ wo true _ ?s1 ?s2 ?s3 ?s4 HKO.out).mono ?_); (case s1 => exact Kd.C_below YO.out.2.2 HB.out); (case s2 => exact YO.out.2.1); (case s3 => exact K15.out _ HB.out); (case s4 => exact W15.out); rintro e w42 ⟨rfl, hd⟩; have hb := hd.below; have HB2 := Aside0.mk (below_step HB.out hb); clear HB hb hd; have HB := HB2; clear HB2; have y1 := cell_below D9.out.1 HB.out; have y2 := cell_below D9.out.2.1 HB.out; have y3 := cell_below D9.out.2.2 HB.out; have y4 := cell_below YL.out.1 HB.out)))
                clear HO14 z1 z2 z3 z4 y1 y2 y3 y4
                go_loopg [19] l0.length (fun kq v19 W => ∃ z : Int, v19 = .int .i64 z ∧ Aside0 (0 ≤ z ∧ z + (kq : Int) = (l0.length : Int)) ∧ Aside0 (Below w13.heap.size w13 W))
                case atStart => exact ⟨0, rfl, ⟨by omega⟩, HB⟩
                case round =>
                  as_aux_lemma =>
                    clear HB
                    obtain ⟨z, rfl, HZ, HB⟩ := hrel
                    by_cases gz : gk = 0
                    · as_aux_lemma =>
                        subst gz
                        have c2 : decide (z < (l0.length : Int)) = false := decide_eq_false (by have := HZ.out; omega)
                        have EW : Aside0 (wrap64 (x + 1) = x + 1) := ⟨by have := N1.out; have := HX.out; unfold wrap64; omega⟩
                        go_wp2
                        go_roundg k1
                        case measure => omega
                        case rel => exact ⟨x + 1, by rw [EW.out], ⟨by have := HX.out; omega⟩, HB⟩
                    · obtain ⟨k3, rfl⟩ : ∃ k3, gk = k3 + 1 := ⟨gk - 1, by omega⟩
                      have z0 := HZ.out.1
                      have zn : z < (l0.length : Int) := by have := HZ.out.2; omega
                      have c2 : decide (z < (l0.length : Int)) = true := decide_eq_true zn
                      have x0 := HX.out.1
                      have x1 : x < (l0.length : Int) := by have := HX.out.2; omega
                      obtain ⟨_, _, _, _, _, _, szg, szh⟩ := HS.out.at z z0 zn
                      obtain ⟨szp, szl⟩ := HS.out.at2 x z x0 x1 z0 zn
                      obtain ⟨wl, ewl⟩ : ∃ l, l = wL l1_1 a2 a3 x z := ⟨_, rfl⟩
                      rw [← ewl] at szl
                      obtain ⟨dl, A4, c4', rfl, y4, l4, C4⟩ := at_V YL.out.2.2 z z0 (by rw [LX.out.2.2.2]; exact zn)
                      rw [szl] at y4 l4 C4
                      obtain ⟨dp, A6, c6', rfl, y6, l6, C6⟩ := at_V K2.out z z0 (by rw [LX.out.2.2.1]; exact zn)
                      have Y4 := Aside0.mk (And.intro y4 (And.intro l4 C4))
                      have Y6 := Aside0.mk (And.intro y6 (And.intro l6 C6))
                      obtain ⟨bz, ebz⟩ : ∃ b, b = sbit a2 z := ⟨_, rfl⟩
                      obtain ⟨bh, ebh⟩ : ∃ b, b = sbit a3 z := ⟨_, rfl⟩
                      rw [← ebz] at szg
                      rw [← ebh] at szh
                      obtain ⟨bw, ebw⟩ : ∃ b, b = wB a2 a3 x z := ⟨_, rfl⟩
                      have ebw2 := ebw
                      unfold wB at ebw2
                      rw [← EB.out.1, ← EB.out.2, ← ebz, ← ebh] at ebw2
                      have hlw : wl = if bw = true then rdV (rdM l1_1 x) z else [] := by rw [ewl]; unfold wL; rw [← ebw]
                      have hll : wl.length ≤ 1000 := by
                        rw [hlw]
                        cases bw
                        · rw [if_neg (by decide)]; simp
                        · rw [if_pos rfl, szp ?_]; exact N1.out.2
                          have hd : (decide (x < z) && (bs && (bz && !(bg && bh)))) = true := ebw2.symm
                          rw [Bool.and_eq_true] at hd
                          exact of_decide_eq_true hd.1
                      obtain ⟨kl, hkl⟩ := cells_rf wl (by omega)
                      have HKL := Aside0.mk hkl
                      have HLW := Aside0.mk hlw
                      have IZ := Aside0.mk szg
                      have JZ := Aside0.mk szh
                      have EW : Aside0 (wrap64 (z + 1) = z + 1) := ⟨by have := N1.out.1; unfold wrap64; omega⟩
                      have EBW := Aside0.mk ebw2
                      have ZZ := Aside0.mk (And.intro z0 zn)
                      clear gz szg szh szp szl y4 l4 C4 y6 l6 C6 ebz ebh ebw ebw2 hlw hll hkl ewl z0 zn x0 x1
                      go_upto_region 32 with (first | ((with_reducible refine gate_dst (N := 210) rfl ?_); (try (refine gate_guard (by rfl) ?_; dsimp only)); refine Kd.R_lit (Kd.int .u32) _ 37 ?hg (N := 210) ?hd (xs := ([] : List Int)) (inner := []) (ok := fun _ => True) (okp := fun _ => True) ?hr ?hp (fun _ hk => hk) trivial (Below.refl _ _) (Nat.le_refl _) (by simp) ?_; (case hd => rfl); (case hg => rfl); (case hr => first | (go_simp; done) | (go_simp; rfl)); (case hp => exact (Reps.none _ _)); intro v210 w50 ho hb hg_ hnew_; clear hg_ hnew_; obtain ⟨A20', c20', rfl⟩ := Kd.R_slice ho; have HB2 := Aside0.mk (below_step HB.out hb); clear HB ho hb; have HB := HB2; clear HB2))
                      go_cut [234] (fun v234 wc => v234 = .bool bw ∧ Aside0 (Below w13.heap.size w13 wc))
                      case first =>
                        as_aux_lemma =>
                          by_cases hxz : x < z
                          · have c3 : decide (x < z) = true := decide_eq_true hxz
                            have eb := EBW.out
                            rw [c3, Bool.true_and] at eb
                            have EBB := Aside0.mk eb
                            clear eb hxz
                            cases bs
                            · have eb : bw = false := EBB.out.trans rfl
                              subst eb
                              go_wp2_with (first | (go_at_call 14; (with_reducible refine (offertorylaw25_in.calls a2 x _ _ IS.out).mono ?_); rintro e w37 ⟨rfl, hd⟩; have hb := hd.below; have HB2 := Aside0.mk (below_step HB.out hb); clear HB hb hd; have HB := HB2; clear HB2) | (go_at_call 14; (with_reducible refine (offertorylaw25_in.calls a2 z _ _ IZ.out).mono ?_); rintro e w37 ⟨rfl, hd⟩; have hb := hd.below; have HB2 := Aside0.mk (below_step HB.out hb); clear HB hb hd; have HB := HB2; clear HB2) | (go_at_call 14; (with_reducible refine (offertorylaw25_in.calls a3 x _ _ IG.out).mono ?_); rintro e w37 ⟨rfl, hd⟩; have hb := hd.below; have HB2 := Aside0.mk (below_step HB.out hb); clear HB hb hd; have HB := HB2; clear HB2) | (go_at_call 14; (with_reducible refine (offertorylaw25_in.calls a3 z _ _ JZ.out).mono ?_); rintro e w37 ⟨rfl, hd⟩; have hb := hd.below; have HB2 := Aside0.mk (below_step HB.out hb); clear HB hb hd; have HB := HB2; clear HB2))
                              go_meet
                              case rel => exact ⟨rfl, HB⟩
                            · cases bz
                              · have eb : bw = false := EBB.out.trans rfl
                                subst eb
                                go_wp2_with (first | (go_at_call 14; (with_reducible refine (offertorylaw25_in.calls a2 x _ _ IS.out).mono ?_); rintro e w37 ⟨rfl, hd⟩; have hb := hd.below; have HB2 := Aside0.mk (below_step HB.out hb); clear HB hb hd; have HB := HB2; clear HB2) | (go_at_call 14; (with_reducible refine (offertorylaw25_in.calls a2 z _ _ IZ.out).mono ?_); rintro e w37 ⟨rfl, hd⟩; have hb := hd.below; have HB2 := Aside0.mk (below_step HB.out hb); clear HB hb hd; have HB := HB2; clear HB2) | (go_at_call 14; (with_reducible refine (offertorylaw25_in.calls a3 x _ _ IG.out).mono ?_); rintro e w37 ⟨rfl, hd⟩; have hb := hd.below; have HB2 := Aside0.mk (below_step HB.out hb); clear HB hb hd; have HB := HB2; clear HB2) | (go_at_call 14; (with_reducible refine (offertorylaw25_in.calls a3 z _ _ JZ.out).mono ?_); rintro e w37 ⟨rfl, hd⟩; have hb := hd.below; have HB2 := Aside0.mk (below_step HB.out hb); clear HB hb hd; have HB := HB2; clear HB2))
                                go_meet
                                case rel => exact ⟨rfl, HB⟩
                              · cases bg
                                · have eb : bw = true := EBB.out.trans rfl
                                  subst eb
                                  go_wp2_with (first | (go_at_call 14; (with_reducible refine (offertorylaw25_in.calls a2 x _ _ IS.out).mono ?_); rintro e w37 ⟨rfl, hd⟩; have hb := hd.below; have HB2 := Aside0.mk (below_step HB.out hb); clear HB hb hd; have HB := HB2; clear HB2) | (go_at_call 14; (with_reducible refine (offertorylaw25_in.calls a2 z _ _ IZ.out).mono ?_); rintro e w37 ⟨rfl, hd⟩; have hb := hd.below; have HB2 := Aside0.mk (below_step HB.out hb); clear HB hb hd; have HB := HB2; clear HB2) | (go_at_call 14; (with_reducible refine (offertorylaw25_in.calls a3 x _ _ IG.out).mono ?_); rintro e w37 ⟨rfl, hd⟩; have hb := hd.below; have HB2 := Aside0.mk (below_step HB.out hb); clear HB hb hd; have HB := HB2; clear HB2) | (go_at_call 14; (with_reducible refine (offertorylaw25_in.calls a3 z _ _ JZ.out).mono ?_); rintro e w37 ⟨rfl, hd⟩; have hb := hd.below; have HB2 := Aside0.mk (below_step HB.out hb); clear HB hb hd; have HB := HB2; clear HB2))
                                  go_meet
                                  case rel => exact ⟨rfl, HB⟩
                                · cases bh
                                  · have eb : bw = true := EBB.out.trans rfl
                                    subst eb
                                    go_wp2_with (first | (go_at_call 14; (with_reducible refine (offertorylaw25_in.calls a2 x _ _ IS.out).mono ?_); rintro e w37 ⟨rfl, hd⟩; have hb := hd.below; have HB2 := Aside0.mk (below_step HB.out hb); clear HB hb hd; have HB := HB2; clear HB2) | (go_at_call 14; (with_reducible refine (offertorylaw25_in.calls a2 z _ _ IZ.out).mono ?_); rintro e w37 ⟨rfl, hd⟩; have hb := hd.below; have HB2 := Aside0.mk (below_step HB.out hb); clear HB hb hd; have HB := HB2; clear HB2) | (go_at_call 14; (with_reducible refine (offertorylaw25_in.calls a3 x _ _ IG.out).mono ?_); rintro e w37 ⟨rfl, hd⟩; have hb := hd.below; have HB2 := Aside0.mk (below_step HB.out hb); clear HB hb hd; have HB := HB2; clear HB2) | (go_at_call 14; (with_reducible refine (offertorylaw25_in.calls a3 z _ _ JZ.out).mono ?_); rintro e w37 ⟨rfl, hd⟩; have hb := hd.below; have HB2 := Aside0.mk (below_step HB.out hb); clear HB hb hd; have HB := HB2; clear HB2))
                                    go_meet
                                    case rel => exact ⟨rfl, HB⟩
                                  · have eb : bw = false := EBB.out.trans rfl
                                    subst eb
                                    go_wp2_with (first | (go_at_call 14; (with_reducible refine (offertorylaw25_in.calls a2 x _ _ IS.out).mono ?_); rintro e w37 ⟨rfl, hd⟩; have hb := hd.below; have HB2 := Aside0.mk (below_step HB.out hb); clear HB hb hd; have HB := HB2; clear HB2) | (go_at_call 14; (with_reducible refine (offertorylaw25_in.calls a2 z _ _ IZ.out).mono ?_); rintro e w37 ⟨rfl, hd⟩; have hb := hd.below; have HB2 := Aside0.mk (below_step HB.out hb); clear HB hb hd; have HB := HB2; clear HB2) | (go_at_call 14; (with_reducible refine (offertorylaw25_in.calls a3 x _ _ IG.out).mono ?_); rintro e w37 ⟨rfl, hd⟩; have hb := hd.below; have HB2 := Aside0.mk (below_step HB.out hb); clear HB hb hd; have HB := HB2; clear HB2) | (go_at_call 14; (with_reducible refine (offertorylaw25_in.calls a3 z _ _ JZ.out).mono ?_); rintro e w37 ⟨rfl, hd⟩; have hb := hd.below; have HB2 := Aside0.mk (below_step HB.out hb); clear HB hb hd; have HB := HB2; clear HB2))
                                    go_meet
                                    case rel => exact ⟨rfl, HB⟩
                          · have c3 : decide (x < z) = false := decide_eq_false hxz
                            have eb := EBW.out
                            rw [c3, Bool.false_and] at eb
                            subst eb
                            clear hxz
                            go_wp2
                            go_meet
                            case rel => exact ⟨rfl, HB⟩
                      case rest =>
                        clear HB
                        obtain ⟨rfl, HB⟩ := hcut
                        have z0 := eq_true ZZ.out.1
                        have zn := eq_true ZZ.out.2
                        have z3 := cell_below D9.out.2.2 HB.out
                        have z4 := cell_below YL.out.1 HB.out
                        cases bw
                        · as_aux_lemma =>
                            have e : wl = [] := HLW.out.trans rfl
                            subst e
                            have z5 := cell_below Y4.out.1 HB.out
                            go_wp2_with (first | (go_at_call 15; refine (offertoryref01_Cells.calls kl A4 c4' [] A20' c20' [] true _ ?s1 ?s2 ?s3 ?s4 HKL.out).mono ?_; (case s1 => exact C_empty); (case s2 => exact Nat.zero_le _); (case s3 => exact C_empty); (case s4 => exact Nat.zero_le _); rintro e w41 ⟨rfl, hd⟩; have hb := hd.below; have HB2 := Aside0.mk (below_step HB.out hb); clear HB hb hd; have HB := HB2; clear HB2))
                            go_roundg k3
                            case measure => omega
                            case rel => exact ⟨z + 1, by rw [EW.out], ⟨by have := HZ.out; omega⟩, HB⟩
                        · as_aux_lemma =>
                            have e : rdV (rdM l1_1 x) z = wl := (HLW.out.trans rfl).symm
                            have y6 := Y6.out
                            rw [e] at y6
                            have Z6 := Aside0.mk y6
                            clear e y6 Y6
                            have z1 := cell_below D5.out.2 HB.out
                            have z2 := cell_below Y2.out HB.out
                            have z5 := cell_below Y4.out.1 HB.out
                            have z6 := cell_below Z6.out.1 HB.out
                            go_wp2_with (first | (go_at_call 15; (with_reducible refine (offertoryref01_Cells.calls kl _ _ wl _ _ wl true _ ?s1 ?s2 ?s3 ?s4 HKL.out).mono ?_); (case s1 => exact Kd.C_below Y4.out.2.2 HB.out); (case s2 => exact Y4.out.2.1); (case s3 => exact Kd.C_below Z6.out.2.2 HB.out); (case s4 => exact Z6.out.2.1); rintro e w41 ⟨rfl, hd⟩; have hb := hd.below; have HB2 := Aside0.mk (below_step HB.out hb); clear HB hb hd; have HB := HB2; clear HB2))
                            go_roundg k3
                            case measure => omega
                            case rel => exact ⟨z + 1, by rw [EW.out], ⟨by have := HZ.out; omega⟩, HB⟩
  · as_aux_lemma =>
      rw [if_neg z] at h
      split at h
      case isFalse => cases h
      rename_i hs
      obtain rfl := Option.some.inj h
      obtain ⟨rfl, rfl, rfl, rfl⟩ := hs
      have z1 : (e1 != 0) = true := bne_iff_ne.mpr z
      have z2 : (e1 == e1) = true := beq_self_eq_true _
      have z3 : (e1 = 0) = False := eq_false z
      have HB := Aside0.mk (Below.refl w13.heap.size w13)
      clear h z
      go_wp2_with (first | (go_at_call 9; (with_reducible refine (offertorylaw25_awake.calls true _ HT.out A3'.out).mono ?_); rintro e w14 ⟨rfl, hb⟩; have HB2 := Aside0.mk hb; have hd9_0 : w14.cell? ⟨g9, 0, none⟩ = some (.slice Ag ([] : List (List Int)).length cg) := (blk_cell (blk_below B9.out hb) 0).trans rfl; have hd9_1 : w14.cell? ⟨g9, 1, none⟩ = some (.slice Ao ([] : List (List Int)).length co) := (blk_cell (blk_below B9.out hb) 1).trans rfl; have hd9_2 : w14.cell? ⟨g9, 2, none⟩ = some (.slice Al ([] : List (List (List Int))).length cl) := (blk_cell (blk_below B9.out hb) 2).trans rfl; clear hb))
      go_ret
      exact ⟨by first | rfl | (simp; done) | (simp [*]; done), below_step HWw.out HB2.out⟩
end Go.Proofs.YtpicmnkkkgedeaaDoor.PAll
