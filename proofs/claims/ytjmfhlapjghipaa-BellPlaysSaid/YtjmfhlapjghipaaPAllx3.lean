/- The Go functions that the laws reach, as Lean functions, and that each call comes to what its function says. Written by a program of this session (a turned copy of the kit's print). No condition beyond those that each theorem states. -/
import Derived.Test.YtjmfhlapjghipaaPAllx0
import Derived.Test.YtjmfhlapjghipaaPAllx1
import Derived.Test.YtjmfhlapjghipaaPAllx2
namespace Go.Proofs.Ytjmfhlapjghipaa.PAll
open Go.RowKit Go.Proofs.YtjmfhlapjghipaaW.PrintWords Go.Proofs.YtjmfhlapjghipaaW.PrintLast Go.Proofs.YtjmfhlapjghipaaW.PrintMore
attribute [local go_sem] max2_int min2_int max_two min_two max_three min_three max_four min_four   -- for this text's walks alone
set_option linter.unusedVariables false
set_option linter.unusedSimpArgs false

set_option maxHeartbeats 8000000 in
set_option maxRecDepth 100000 in
theorem down_w {b g : Nat} {w : World} {A : Option Addr} {c : Nat} {m : Value} {l : List El} (hg : w.heap[g]? = some (.cells #[.slice A l.length c, m] 49 (0, 0))) (h : Mo b w (.slice A l.length c) l) (hbs : b ≤ w.heap.size) (i0 n : Nat) (hi : i0 < n) (hn : n ≤ l.length) (hlm : l.length ≤ 2305843009213693952) :
    Calls Try.prog 17 #[.iface 55 (.pointer (some ⟨g, 0, none⟩)), .int .i64 (i0 : Int), .int .i64 (n : Int)] w fun e w' => e = .returned (.bool (decide (i0 < (dnE n l i0 n).2))) ∧ Mo b w' (.slice A l.length c) (dnE n l i0 n).1 ∧ Fr b w w' := by
  have HG : Aside0 (∀ W, Fr b w W → W.cell? ⟨g, 0, none⟩ = some (.slice A l.length c)) := ⟨fun W hF => (blk_cell (hF.kp _ _ hg ⟨by decide, by decide⟩) 0).trans rfl⟩
  have HS : Aside0 (∀ W, Fr b w W → b ≤ W.heap.size) := ⟨fun W hF => Nat.le_trans hbs hF.hb.size⟩
  have HM := Aside0.mk h
  have HJ := Aside0.mk (And.intro hi (And.intro hn hlm))
  clear hg h hi hn hlm hbs
  go_enter Try.func17, Try.ntmps17
  go_wp2_with fail
  go_loopg [7] n (fun kq v7 W => ∃ (y : Nat) (l' : List El), v7 = .int .i64 (y : Int) ∧ Aside0 (n ≤ y + kq ∧ y < n ∧ l'.length = l.length ∧ dnE kq l' y n = dnE n l i0 n ∧ i0 ≤ y) ∧ Aside0 (Mo b W (.slice A l.length c) l') ∧ Aside0 (Fr b w W))
  case atStart => exact ⟨i0, l, rfl, ⟨by omega, HJ.out.1, rfl, rfl, Nat.le_refl _⟩, HM, ⟨Fr.refl _ _⟩⟩
  case round =>
    clear HM
    obtain ⟨y, l', rfl, HY, HM, HF⟩ := hrel
    go_upto_region 3 with fail
    have e : wrap64 (wrap64 (2 * (y : Int)) + 1) = ((2 * y + 1 : Nat) : Int) := by
      have := HY.out
      have := HJ.out
      have e1 : wrap64 (2 * (y : Int)) = 2 * (y : Int) := by unfold wrap64; omega
      rw [e1]
      unfold wrap64
      omega
    rw [e]
    clear e
    obtain ⟨bb, ebb⟩ : ∃ x, x = decide (i0 < y) := ⟨_, rfl⟩
    have d9 : decide ((i0 : Int) < (y : Int)) = bb := by
      rw [ebb]
      by_cases hh : i0 < y
      · rw [decide_eq_true hh]; exact decide_eq_true (by omega)
      · rw [decide_eq_false hh]; exact decide_eq_false (by omega)
    have d9n : decide (i0 < y) = bb := ebb.symm
    have EBB := Aside0.mk ebb
    clear ebb
    by_cases hk : n ≤ 2 * y + 1
    · obtain ⟨j1, ej1⟩ : ∃ x, x = 2 * y + 1 := ⟨_, rfl⟩
      rw [← ej1]
      have d1 : decide ((n : Int) ≤ (j1 : Int)) = true := decide_eq_true (by omega)
      have d1n : decide (n ≤ j1) = true := decide_eq_true (by omega)
      have d2 : decide ((j1 : Int) < 0) = false := decide_eq_false (by omega)
      have hR : dnE gk l' y n = (l', y) := by
        cases gk with
        | zero => rfl
        | succ k => unfold dnE; rw [if_pos (Or.inl hk)]
      have HR := Aside0.mk hR
      clear hR hk ej1
      go_wp2
      go_ret
      exact ⟨by rw [← HY.out.2.2.2.1, HR.out]; show Ending.returned (Value.bool bb) = _; rw [EBB.out], by rw [← HY.out.2.2.2.1, HR.out]; exact HM.out, HF.out⟩
    · obtain ⟨k1, rfl⟩ : ∃ k1, gk = k1 + 1 := ⟨gk - 1, by have := HY.out; omega⟩
      obtain ⟨j1, ej1⟩ : ∃ x, x = 2 * y + 1 := ⟨_, rfl⟩
      rw [← ej1]
      have d1 : decide ((n : Int) ≤ (j1 : Int)) = false := decide_eq_false (by omega)
      have d1n : decide (n ≤ j1) = false := decide_eq_false (by omega)
      have d2 : decide ((j1 : Int) < 0) = false := decide_eq_false (by omega)
      have HK := Aside0.mk (And.intro hk ej1)
      clear hk ej1
      go_upto_region 6 with fail
      have e : wrap64 ((j1 : Int) + 1) = ((2 * y + 2 : Nat) : Int) := by
        have := HY.out
        have := HJ.out
        have := HK.out
        unfold wrap64
        omega
      rw [e]
      clear e d1 d1n d2 d9 d9n
      obtain ⟨j2, ej2⟩ : ∃ x, x = 2 * y + 2 := ⟨_, rfl⟩
      rw [← ej2]
      obtain ⟨kd, ekd⟩ : ∃ x, x = kidE l' y n := ⟨_, rfl⟩
      have hkc := kidE_cases l' y n (by have := HK.out; omega)
      rw [← ekd] at hkc
      have KC := Aside0.mk (And.intro ekd (And.intro hkc ej2))
      clear ekd hkc ej2
      have h1 := m_less (HG.out _ HF.out)
      obtain ⟨bk, ebk⟩ : ∃ x, x = (decide (j2 < n) && lessE (l'.getD j2 d0) (l'.getD j1 d0)) := ⟨_, rfl⟩
      have hkd : kd = if bk = true then j2 else j1 := by
        rw [KC.out.1, ebk]
        unfold kidE
        rw [← KC.out.2.2, ← HK.out.2]
        by_cases hj2 : j2 < n
        · rw [decide_eq_true hj2, Bool.true_and]
          by_cases hb : lessE (l'.getD j2 d0) (l'.getD j1 d0) = true
          · rw [if_pos ⟨hj2, hb⟩, if_pos hb]
          · rw [if_neg (fun h => hb h.2), if_neg hb]
        · rw [decide_eq_false hj2, Bool.false_and, if_neg (fun h => hj2 h.1), if_neg (by decide)]
      have HD := Aside0.mk hkd
      have EBK := Aside0.mk ebk
      clear hkd ebk
      go_cut [33] (fun v33 wc => v33 = .bool bk ∧ Aside0 (Mo b wc (.slice A l.length c) l') ∧ Aside0 (Fr b w wc))
      case first =>
        by_cases hj2 : j2 < n
        · have d1 : decide ((j2 : Int) < (n : Int)) = true := decide_eq_true (by omega)
          have d1n : decide (j2 < n) = true := decide_eq_true hj2
          have hl : lessE (l'.getD j2 d0) (l'.getD j1 d0) = bk := by rw [EBK.out, d1n, Bool.true_and]
          have HL := Aside0.mk hl
          have J2 := Aside0.mk hj2
          clear hl hj2
          go_wp2_with (first | (go_at_call 36; (with_reducible refine (less_w HM.out j2 j1 (by have := HY.out; have := HJ.out; have := J2.out; omega) (by have := HY.out; have := HJ.out; have := HK.out; omega)).mono ?_); rintro e w2 ⟨rfl, hb⟩; rw [HL.out]; have HM2 := Aside0.mk (HM.out.below hb); have HF2 := Aside0.mk (HF.out.trans (Fr.of hb (HS.out _ HF.out))); clear hb))
          go_meet
          case rel => exact ⟨rfl, HM2, HF2⟩
        · have d1 : decide ((j2 : Int) < (n : Int)) = false := decide_eq_false (by omega)
          have d1n : decide (j2 < n) = false := decide_eq_false hj2
          have hb : bk = false := by rw [EBK.out, d1n, Bool.false_and]
          have HB := Aside0.mk hb
          clear hj2 hb
          go_wp2
          go_meet
          case rel => exact ⟨by rw [HB.out], HM, HF⟩
      case rest =>
       clear HM HF h1
       obtain ⟨rfl, HM, HF⟩ := hcut
       clear EBK
       go_upto_if 33 with fail
       go_cut [9] (fun v9 wc => v9 = .int .i64 (kd : Int) ∧ Aside0 (Mo b wc (.slice A l.length c) l') ∧ Aside0 (Fr b w wc))
       case first =>
        cases bk
        · have e : kd = j1 := HD.out
          subst e
          go_wp2
          go_meet
          case rel => exact ⟨rfl, HM, HF⟩
        · have e : kd = j2 := HD.out
          subst e
          go_wp2
          go_meet
          case rel => exact ⟨rfl, HM, HF⟩
       case rest =>
         clear HM HF
         obtain ⟨rfl, HM, HF⟩ := hcut
         have h1 := m_less (HG.out _ HF.out)
         obtain ⟨bl, ebl⟩ : ∃ x, x = lessE (l'.getD kd d0) (l'.getD y d0) := ⟨_, rfl⟩
         have hR : dnE (k1 + 1) l' y n = if bl = false then (l', y) else dnE k1 (swE l' y kd) kd n := by
           have : dnE (k1 + 1) l' y n = if n ≤ 2 * y + 1 ∨ lessE (l'.getD (kidE l' y n) d0) (l'.getD y d0) = false then (l', y) else dnE k1 (swE l' y (kidE l' y n)) (kidE l' y n) n := rfl
           rw [this, ← KC.out.1, ← ebl]
           by_cases hb : bl = false
           · rw [if_pos hb, if_pos (Or.inr hb)]
           · rw [if_neg hb, if_neg (fun h => h.elim (by have := HK.out; omega) hb)]
         have HR := Aside0.mk hR
         have HL := Aside0.mk ebl
         clear ebl hR
         go_upto_if 39 with (first | (go_at_call 36; (with_reducible refine (less_w HM.out kd y (by have := HY.out; have := HJ.out; have := KC.out.2.1; omega) (by have := HY.out; have := HJ.out; omega)).mono ?_); rintro e w2 ⟨rfl, hb⟩; rw [← HL.out]; have HM2 := Aside0.mk (HM.out.below hb); have HF2 := Aside0.mk (HF.out.trans (Fr.of hb (HS.out _ HF.out))); clear hb))
         clear HM HF h1
         cases bl
         · have d9 : decide ((i0 : Int) < (y : Int)) = bb := by
             rw [EBB.out]
             by_cases hh : i0 < y
             · rw [decide_eq_true hh]; exact decide_eq_true (by omega)
             · rw [decide_eq_false hh]; exact decide_eq_false (by omega)
           have d9n : decide (i0 < y) = bb := EBB.out.symm
           go_wp2
           go_ret
           exact ⟨by rw [← HY.out.2.2.2.1, HR.out]; show Ending.returned (Value.bool bb) = _; rw [EBB.out]; rfl, by rw [← HY.out.2.2.2.1, HR.out]; exact HM2.out, HF2.out⟩
         · have h2 := m_swap (HG.out _ HF2.out)
           go_wp2_with (first | (go_at_call 37; (with_reducible refine (swap_w HM2.out y kd (by have := HY.out; have := HJ.out; omega) (by have := HY.out; have := HJ.out; have := KC.out.2.1; omega)).mono ?_); rintro e w3 ⟨rfl, hM3, hF3⟩; have HM3 := Aside0.mk hM3; have HF3 := Aside0.mk (HF2.out.trans hF3); clear hM3 hF3))
           go_roundg k1
           case measure => omega
           case rel => exact ⟨kd, swE l' y kd, rfl, ⟨by have := HY.out; have := KC.out.2.1; omega, by have := KC.out.2.1; omega, by rw [swE_len]; exact HY.out.2.2.1, by rw [← HY.out.2.2.2.1, HR.out]; rfl, by have := HY.out; have := KC.out.2.1; omega⟩, HM3, HF3⟩

/-! ### Fix, Pop, Push, Remove -/
set_option maxHeartbeats 8000000 in
set_option maxRecDepth 100000 in
theorem fix_w {b g : Nat} {w : World} {A : Option Addr} {c : Nat} {m : Value} {l : List El} (hg : w.heap[g]? = some (.cells #[.slice A l.length c, m] 49 (0, 0))) (h : Mo b w (.slice A l.length c) l) (hbs : b ≤ w.heap.size) (i : Nat) (hi : i < l.length) (hlm : l.length ≤ 2305843009213693952) :
    Calls Try.prog 14 #[.iface 55 (.pointer (some ⟨g, 0, none⟩)), .int .i64 (i : Int)] w fun e w' => e = .returned (.tuple #[]) ∧ Mo b w' (.slice A l.length c) (fixE l i l.length) ∧ Fr b w w' := by
  have HG := Aside0.mk hg
  have HM := Aside0.mk h
  have HJ := Aside0.mk (And.intro hi (And.intro hlm hbs))
  have h1 := m_len ((blk_cell hg 0).trans rfl)
  clear hg h hi hlm hbs
  obtain ⟨bl, ebl⟩ : ∃ x, x = decide (i < (dnE l.length l i l.length).2) := ⟨_, rfl⟩
  have hfix : fixE l i l.length = if bl = false then upE i (dnE l.length l i l.length).1 i else (dnE l.length l i l.length).1 := by
    have hge := dnE_ge l.length l i l.length
    unfold fixE
    rw [ebl]
    by_cases hh : (dnE l.length l i l.length).2 = i
    · rw [if_pos hh, if_pos (decide_eq_false (by omega))]
    · rw [if_neg hh, decide_eq_true (by omega), if_neg (by decide)]
  have HX := Aside0.mk hfix
  have HBL := Aside0.mk ebl
  clear hfix ebl
  go_enter Try.func14, Try.ntmps14
  go_upto_if 9 with (first | (go_at_call 35; (with_reducible refine (len_w A l.length c _).mono ?_); rintro e w1 ⟨rfl, rfl⟩) | (go_at_call 17; (with_reducible refine (down_w HG.out HM.out HJ.out.2.2 i l.length HJ.out.1 (Nat.le_refl _) HJ.out.2.1).mono ?_); rintro e w2 ⟨rfl, hM, hF⟩; rw [← HBL.out]; have HM2 := Aside0.mk hM; have HF2 := Aside0.mk hF; clear hM hF))
  clear h1
  cases bl
  · obtain ⟨l2, el2⟩ : ∃ x, x = (dnE l.length l i l.length).1 := ⟨_, rfl⟩
    have hl2 : l2.length = l.length := by rw [el2, dnE_len]
    have HM3 : Aside0 (Mo b w2 (.slice A l2.length c) l2) := ⟨by rw [hl2, el2]; exact HM2.out⟩
    have HG3 : Aside0 (w2.heap[g]? = some (.cells #[.slice A l2.length c, m] 49 (0, 0))) := ⟨by rw [hl2]; exact HF2.out.kp _ _ HG.out ⟨by decide, by decide⟩⟩
    have HL := Aside0.mk (And.intro hl2 el2)
    clear hl2 el2
    go_wp2_with (first | (go_at_call 18; (with_reducible refine (up_w HG3.out HM3.out (Nat.le_trans HJ.out.2.2 HF2.out.hb.size) i (by rw [HL.out.1]; exact HJ.out.1) (by rw [HL.out.1]; have := HJ.out.2.1; omega)).mono ?_); rintro e w3 ⟨rfl, hM, hF⟩; have HM4 := Aside0.mk hM; have HF4 := Aside0.mk (HF2.out.trans hF); clear hM hF))
    exact bodyPost_end (results_none rfl _ _ _) rfl ⟨rfl, by rw [HX.out, if_pos trivial, ← HL.out.2, ← HL.out.1]; exact HM4.out, HF4.out⟩
  · go_wp2
    exact bodyPost_end (results_none rfl _ _ _) rfl ⟨rfl, by rw [HX.out]; exact HM2.out, HF2.out⟩
/-- What is no pointer's row, no moment and not the block g is kept. -/
structure FrG (b g : Nat) (W W' : World) : Prop where
  hb : Below b W W'
  kp : ∀ (k : Nat) (o : Obj), k ≠ g → W.heap[k]? = some o → Obj.kept o → W'.heap[k]? = some o
theorem Fr.g {b : Nat} {W W' : World} (h : Fr b W W') (g : Nat) : FrG b g W W' := ⟨h.hb, fun k o _ hk ho => h.kp k o hk ho⟩
theorem FrG.trans {b g : Nat} {W W' W2 : World} (h : FrG b g W W') (k : FrG b g W' W2) : FrG b g W W2 := ⟨h.hb.trans k.hb, fun i o hi hk ho => k.kp i o hi (h.kp i o hi hk ho) ho⟩
theorem FrG.setG {b g : Nat} {W W' : World} (h : FrG b g W W') (hb : b ≤ g) (i : Nat) (u : Value) : FrG b g W (W'.setCell ⟨g, i, none⟩ u) :=
  ⟨h.hb.setCell hb u, fun k o hk h1 ho => by rw [Below.heap_setCell W' ⟨g, i, none⟩ u k hk]; exact h.kp k o hk h1 ho⟩
theorem MoP.far {b : Nat} {W : World} {v : Value} {l : List El} {pl : Nat → Int} (h : MoP b W v l pl) {g t : Nat} {cs : Array Value} (hg : W.heap[g]? = some (.cells cs t (0, 0))) (h50 : t ≠ 50) (h53 : t ≠ 53) (i : Nat) (u : Value) : MoP b (W.setCell ⟨g, i, none⟩ u) v l pl := by
  refine ⟨own_setCell h.row (p := ⟨g, i, none⟩) (fun e => ?_) u, fun x e hx => ⟨?_, (h.mom x e hx).2⟩, h.nd⟩
  · rcases h.row.2 with ⟨rfl, _⟩ | ⟨ga, cap, cur, rfl, _, hh, _⟩
    · simp [Value.ownBlock] at e
    · obtain rfl : g = ga := by simpa [Value.ownBlock] using e
      rw [hg] at hh
      injection hh with hh
      injection hh with _ ht
      exact h50 ht
  · refine blk_far (h.mom x e hx).1 (fun e2 => ?_) u
    have h1 := (h.mom x e hx).1
    rw [show e.1 = g from e2, hg] at h1
    injection h1 with h1
    injection h1 with _ ht
    exact h53 ht
theorem MoP.less1 {b : Nat} {W : World} {A : Option Addr} {n c : Nat} {l : List El} {pl : Nat → Int} (h : MoP b W (.slice A n c) l pl) (k : Nat) (hk : k < l.length) : MoP b W (.slice A k c) (l.take k) pl := by
  obtain ⟨ga, cap, cur, e, hb, hh, h1, h2, h3, h4⟩ := h.rowAt hk
  injection e with e1 e2 e3
  subst e1 e2 e3
  have hlt : (l.take k).length = k := by rw [List.length_take]; omega
  refine ⟨⟨by simp, Or.inr ⟨ga, c, cur, by rw [hlt], hb, hh, by rw [hlt]; omega, h2, by rw [h3, Nat.mul_one], ?_⟩⟩, fun x e hx => ?_, fun x y e f hx hy hef => ?_⟩
  · rw [hlt, Nat.mul_one, List.map_take, ← h4, List.take_take, Nat.min_eq_left (Nat.le_of_lt hk)]
  · rw [List.getElem?_take] at hx
    split at hx
    · exact h.mom x e hx
    · cases hx
  · rw [List.getElem?_take] at hx hy
    split at hx
    · split at hy
      · exact h.nd x y e f hx hy hef
      · cases hy
    · cases hx
set_option maxHeartbeats 8000000 in
set_option maxRecDepth 100000 in
theorem pop_w {b g : Nat} {w : World} {A : Option Addr} {c : Nat} {m : Value} {l : List El} (hg : w.heap[g]? = some (.cells #[.slice A l.length c, m] 49 (0, 0))) (hbg : b ≤ g) (h : Mo b w (.slice A l.length c) l) (k : Nat) (hk : l.length = k + 1) (hlm : l.length ≤ 2305843009213693952) :
    Calls Try.prog 41 #[.pointer (some ⟨g, 0, none⟩)] w fun e w' => ∃ x : Value, e = .returned x ∧ w'.heap[g]? = some (.cells #[.slice A k c, m] 49 (0, 0)) ∧ Mo b w' (.slice A k c) (l.take k) ∧ FrG b g w w' := by
  have c0 : w.cell? ⟨g, 0, none⟩ = some (.slice A l.length c) := (blk_cell hg 0).trans rfl
  have f0 := blk_frozen hg 0
  obtain ⟨ga, cap, cur, e, hb, hh, h1, h2, h3, h4⟩ := h.rowAt (x := k) (by omega)
  injection e with e1 e2 e3
  subst e1 e3
  have c1 := (h.ptr (x := k) (by omega)).1
  have hM := (h.less1 k (by omega)).far hg (by decide) (by decide) 0 (.slice (some ⟨ga, 0, none⟩) k c)
  have hF := (Fr.g (Fr.refl b w) g).setG hbg 0 (.slice (some ⟨ga, 0, none⟩) k c)
  have hG := (blk_set hg 0 (.slice (some ⟨ga, 0, none⟩) k c)).trans (rfl : _ = some (Obj.cells #[.slice (some ⟨ga, 0, none⟩) k c, m] 49 (0, 0)))
  have hne : ga ≠ g := blk_ne hh hg (by decide)
  have HR := Aside0.mk (And.intro hG (And.intro hM hF))
  rw [hk] at c0
  have kc := h1
  rw [hk] at kc
  unfold ptrE at c1
  have q1 : (0 ≤ (k : Int)) = True := eq_true (by omega)
  have q2 : ((k : Int) ≤ (c : Int)) = True := eq_true (by omega)
  have q2n : (k ≤ c) = True := eq_true (by omega)
  have q3 : ((k : Int) < (k : Int) + 1) = True := eq_true (by omega)
  have q4 : (k < k + 1) = True := eq_true (by omega)
  clear hM hF hG h hg hh h1 h2 h3 h4 kc
  have HW : Aside0 (wrap64 (k : Int) = (k : Int)) := ⟨by unfold wrap64; omega⟩
  have q5 : ((k : Int) < 0) = False := eq_false (by omega)
  go_enter Try.func41, Try.ntmps41
  go_wp2_with (first | ((with_reducible refine gate_dst (N := 12) rfl ?_); rw [HW.out]) | ((with_reducible refine gate_dst (N := 18) rfl ?_); rw [HW.out]))
  go_ret
  exact ⟨⟨_, rfl⟩, HR.out.1, HR.out.2.1, HR.out.2.2⟩
theorem infoP : (Try.prog.info? 50).map (fun i => (i.zero, i.size, i.bytes)) = some (some (.pointer none), 1, 8) := by kernel_rfl
theorem MoP.snoc {b : Nat} {W W' : World} {v v' : Value} {l : List El} (h : Mo b W v l) (hgr : W.grownBy W' v.ownBlock) (x : El) (hrow : W'.ownsRow b 50 1 v' (l.length + 1) (l.map ptrE ++ [ptrE x]))
    (hx : W.heap[x.1]? = some (.cells #[.int .i64 x.2.1, .int .i64 x.2.2, .int .i64 (l.length : Int)] 53 (0, 0))) (hbx : b ≤ x.1) (hne : ∀ (y : Nat) (e : El), l[y]? = some e → e.1 ≠ x.1) : Mo b W' v' (l ++ [x]) := by
  have own : ∀ (g' : Nat) (cs : Array Value), W.heap[g']? = some (.cells cs 53 (0, 0)) → some g' ≠ v.ownBlock := fun g' cs hh e => by
    rcases h.row.2 with ⟨rfl, _⟩ | ⟨ga, cap, cur, rfl, _, hh2, _⟩
    · simp [Value.ownBlock] at e
    · obtain rfl : g' = ga := by simpa [Value.ownBlock] using e
      rw [hh] at hh2
      injection hh2 with hh2
      injection hh2 with _ ht
      exact absurd ht (by decide)
  have cs : ∀ (y : Nat) (e : El), (l ++ [x])[y]? = some e → l[y]? = some e ∨ (y = l.length ∧ e = x) := fun y e hy => by
    rw [List.getElem?_append] at hy
    split at hy
    · exact Or.inl hy
    · rw [List.getElem?_singleton] at hy
      split at hy
      · exact Or.inr ⟨by omega, (Option.some.inj hy).symm⟩
      · cases hy
  refine ⟨by rw [List.map_append, List.length_append]; exact hrow, fun y e hy => ?_, fun y z e f hy hz hef => ?_⟩
  · rcases cs y e hy with h1 | ⟨rfl, rfl⟩
    · exact ⟨blk_grown (h.mom y e h1).1 hgr (own _ _ (h.mom y e h1).1), (h.mom y e h1).2⟩
    · exact ⟨blk_grown hx hgr (own _ _ hx), hbx⟩
  · rcases cs y e hy with h1 | ⟨rfl, rfl⟩
    · rcases cs z f hz with h2 | ⟨rfl, rfl⟩
      · exact h.nd y z e f h1 h2 hef
      · exact absurd hef (hne y e h1)
    · rcases cs z f hz with h2 | ⟨rfl, rfl⟩
      · exact absurd hef.symm (hne z f h2)
      · rfl
theorem own_kept {b : Nat} {W : World} {v : Value} {l : List El} {pl : Nat → Int} (h : MoP b W v l pl) {k : Nat} {o : Obj} (hk : W.heap[k]? = some o) (ho : Obj.kept o) : some k ≠ v.ownBlock := fun e => by
  rcases h.row.2 with ⟨rfl, _⟩ | ⟨ga, cap, cur, rfl, _, hh, _⟩
  · simp [Value.ownBlock] at e
  · obtain rfl : k = ga := by simpa [Value.ownBlock] using e
    rw [hk] at hh
    obtain rfl := Option.some.inj hh
    exact ho.1 rfl
theorem own_low {b : Nat} {W : World} {v : Value} {l : List El} {pl : Nat → Int} (h : MoP b W v l pl) : ∀ k, v.ownBlock = some k → b ≤ k := fun k e => by
  rcases h.row.2 with ⟨rfl, _⟩ | ⟨ga, cap, cur, rfl, hb, _⟩
  · simp [Value.ownBlock] at e
  · obtain rfl : ga = k := by simpa [Value.ownBlock] using e
    exact hb
set_option maxHeartbeats 8000000 in
set_option maxRecDepth 100000 in
theorem push42_w {b g : Nat} {w : World} {A : Option Addr} {c : Nat} {m : Value} {l : List El} (hg : w.heap[g]? = some (.cells #[.slice A l.length c, m] 49 (0, 0))) (hbg : b ≤ g) (h : Mo b w (.slice A l.length c) l) (x : El) (p0 : Int)
    (hx : w.heap[x.1]? = some (.cells #[.int .i64 x.2.1, .int .i64 x.2.2, .int .i64 p0] 53 (0, 0))) (hbx : b ≤ x.1) (hne : ∀ (y : Nat) (e : El), l[y]? = some e → e.1 ≠ x.1) (hlm : l.length ≤ 1000000) :
    Calls Try.prog 42 #[.pointer (some ⟨g, 0, none⟩), .iface 50 (.pointer (some ⟨x.1, 0, none⟩))] w fun e w' => e = .returned (.tuple #[]) ∧ ∃ A' c', w'.heap[g]? = some (.cells #[.slice A' (l.length + 1) c', m] 49 (0, 0)) ∧ Mo b w' (.slice A' (l.length + 1) c') (l ++ [x]) ∧ FrG b g w w' := by
  have c0 : w.cell? ⟨g, 0, none⟩ = some (.slice A l.length c) := (blk_cell hg 0).trans rfl
  have cx : w.cell? ⟨x.1, 2, none⟩ = some (.int .i64 p0) := (blk_cell hx 2).trans rfl
  have fx := blk_frozen hx 2
  obtain ⟨gx, egx⟩ : ∃ y, y = x.1 := ⟨_, rfl⟩
  rw [← egx] at cx fx hx hbx hne ⊢
  have hgx : g ≠ gx := blk_ne hg hx (by decide)
  have HG := Aside0.mk (And.intro hg (And.intro hbg hlm))
  have HM := Aside0.mk h
  have HX := Aside0.mk (And.intro hx (And.intro hbx hne))
  have EX := Aside0.mk (And.intro egx hgx)
  clear hg hbg h hx hbx hne hlm egx hgx
  have hta : ∀ (v : Value) (W : World), (Instr.typeAssert (.iface 50 v) 20 50 false).run Try.prog W = .ok v W := fun v W => by rfl
  go_enter Try.func42, Try.ntmps42
  go_upto_region 2 with fail
  clear c0 cx fx
  refine code_gen (fun W => Mo b W (.slice A l.length c) l ∧ W.heap[gx]? = some (.cells #[.int .i64 x.2.1, .int .i64 x.2.2, .int .i64 (l.length : Int)] 53 (0, 0)) ∧ W.heap[g]? = some (.cells #[.slice A l.length c, m] 49 (0, 0)) ∧ Fr b w W) ⟨?_, ?_, ?_, ?_⟩ ?_
  · refine ⟨own_setCell HM.out.row (p := ⟨gx, 2, none⟩) (fun e => ?_) _, fun y e hy => ⟨blk_far (HM.out.mom y e hy).1 (HX.out.2.2 y e hy) _, (HM.out.mom y e hy).2⟩, HM.out.nd⟩
    rcases HM.out.row.2 with ⟨h1, _⟩ | ⟨ga, cap, cur, h1, _, hh, _⟩
    · rw [h1] at e
      simp [Value.ownBlock] at e
    · rw [h1] at e
      obtain rfl : gx = ga := by simpa [Value.ownBlock] using e
      have := HX.out.1
      rw [hh] at this
      injection this with this
      injection this with _ ht
      exact absurd ht (by decide)
  · exact (blk_set HX.out.1 2 _).trans rfl
  · exact blk_far HG.out.1 EX.out.2 _
  · exact (Fr.refl b w).set HX.out.1 (Or.inr rfl) HX.out.2.1 2 _
  rintro w2 ⟨hM, hx, hg, hF⟩
  have c0 : w2.cell? ⟨g, 0, none⟩ = some (.slice A l.length c) := (blk_cell hg 0).trans rfl
  have HM2 := Aside0.mk hM
  have HX2 := Aside0.mk hx
  have HG2 := Aside0.mk hg
  have HF2 := Aside0.mk hF
  obtain ⟨i0, hi0, hz0, hz1, hz2⟩ := info_parts infoP
  have HI := Aside0.mk (And.intro hi0 (And.intro hz0 (And.intro hz1 hz2)))
  clear hM hx hg hF HM hi0 hz0 hz1 hz2
  go_wp2_with (first | (at_builtin; refine wpList_append_own_at _ rfl _ _ 47 rfl b 50 i0 (.pointer none) 1 8 Try.underlying47 HI.out.1 HI.out.2.1 HI.out.2.2.1 HI.out.2.2.2 rfl (by decide) (.slice A l.length c) l.length (l.map ptrE) rfl (own_alloc HM2.out.row _) ⟨w2.heap.size, 0, none⟩ 1 1 [.pointer (some ⟨gx, 0, none⟩)] rfl rfl (cell_one_new _ _ _) (by simp [Value.oneCell']) (by unfold maxLen; have := HG.out.2.2; omega) (by have := HG.out.2.2; omega) ?hb ?_; (case hb => have := blk_lt HG2.out; have := HG.out.2.1; show b ≤ (w2.heap.push _).size; rw [Array.size_push]; omega); intro v' w3 hown' hgrow hnil hloc; have hgr : w2.grownBy w3 (Value.slice A l.length c).ownBlock := (World.grownBy_alloc w2 _ _).trans hgrow; have hM3 := HM2.out.snoc hgr x (by have e : ptrE x = .pointer (some ⟨gx, 0, none⟩) := (by unfold ptrE; rw [EX.out.1]); rw [e]; exact hown') (by rw [← EX.out.1]; exact HX2.out) (by rw [← EX.out.1]; exact HX.out.2.1) (by rw [← EX.out.1]; exact HX.out.2.2); have hg3 := blk_grown HG2.out hgr (own_kept HM2.out HG2.out ⟨by decide, by decide⟩); have hF3 : FrG b g w w3 := ⟨HF2.out.hb.grown hgr (by have := blk_lt HG2.out; have := HG.out.2.1; omega) (own_low HM2.out), fun k o hk h1 ho => blk_grown (HF2.out.kp k o h1 ho) hgr (own_kept HM2.out (HF2.out.kp k o h1 ho) ho)⟩; have hsl := hM3.slice; obtain ⟨A', c', esl⟩ := hsl; rw [List.length_append] at esl; subst esl; have c3 : w3.cell? ⟨g, 0, none⟩ = some (.slice A l.length c) := (blk_cell hg3 0).trans rfl; have f3 := blk_frozen hg3 0; have HFIN := Aside0.mk (And.intro ((blk_set hg3 0 (.slice A' (l.length + 1) c')).trans (rfl : _ = some (Obj.cells #[.slice A' (l.length + 1) c', m] 49 (0, 0)))) (And.intro (hM3.far hg3 (by decide) (by decide) 0 (.slice A' (l.length + 1) c')) (hF3.setG HG.out.2.1 0 (.slice A' (l.length + 1) c')))); clear hown' hgrow hnil hloc hgr hM3 hF3 hg3))
  exact bodyPost_end (results_none rfl _ _ _) rfl ⟨rfl, A', c', HFIN.out.1, HFIN.out.2.1, HFIN.out.2.2⟩
set_option maxHeartbeats 8000000 in
set_option maxRecDepth 100000 in
theorem push_w {b g : Nat} {w : World} {A : Option Addr} {c : Nat} {m : Value} {l : List El} (hg : w.heap[g]? = some (.cells #[.slice A l.length c, m] 49 (0, 0))) (hbg : b ≤ g) (h : Mo b w (.slice A l.length c) l) (x : El) (p0 : Int)
    (hx : w.heap[x.1]? = some (.cells #[.int .i64 x.2.1, .int .i64 x.2.2, .int .i64 p0] 53 (0, 0))) (hbx : b ≤ x.1) (hne : ∀ (y : Nat) (e : El), l[y]? = some e → e.1 ≠ x.1) (hlm : l.length ≤ 1000000) :
    Calls Try.prog 15 #[.iface 55 (.pointer (some ⟨g, 0, none⟩)), .iface 50 (.pointer (some ⟨x.1, 0, none⟩))] w fun e w' => e = .returned (.tuple #[]) ∧ ∃ A' c', w'.heap[g]? = some (.cells #[.slice A' (l.length + 1) c', m] 49 (0, 0)) ∧ Mo b w' (.slice A' (l.length + 1) c') (upE l.length (l ++ [x]) l.length) ∧ FrG b g w w' := by
  have HP := Aside0.mk (push42_w hg hbg h x p0 hx hbx hne hlm)
  have HG := Aside0.mk (And.intro hbg (And.intro hlm (blk_lt hg)))
  have h1 := m_push (g := g) (W := w)
  clear hg hbg h hx hbx hne hlm
  go_enter Try.func15, Try.ntmps15
  go_upto_region 1 with (first | (go_at_call 42; (with_reducible refine HP.out.mono ?_); rintro e w2 ⟨rfl, A', c', hg2, hM2, hF2⟩; have HG2 := Aside0.mk hg2; have HM2 := Aside0.mk hM2; have HF2 := Aside0.mk hF2; clear hg2 hM2 hF2))
  clear h1 HP
  have h1 := m_len ((blk_cell HG2.out 0).trans rfl)
  obtain ⟨l2, el2⟩ : ∃ y, y = l ++ [x] := ⟨_, rfl⟩
  have hl2 : l2.length = l.length + 1 := by rw [el2, List.length_append]; rfl
  have HG3 : Aside0 (w2.heap[g]? = some (.cells #[.slice A' l2.length c', m] 49 (0, 0))) := ⟨by rw [hl2]; exact HG2.out⟩
  have HM3 : Aside0 (Mo b w2 (.slice A' l2.length c') l2) := ⟨by rw [hl2, el2]; exact HM2.out⟩
  have e1 : wrap64 (((l.length + 1 : Nat) : Int) - 1) = (l.length : Int) := by have := HG.out.2.1; unfold wrap64; omega
  have HE := Aside0.mk (And.intro el2 hl2)
  have HW : Aside0 (wrap64 ((l2.length : Int) - 1) = (l.length : Int)) := ⟨by have := HG.out.2.1; rw [hl2]; unfold wrap64; omega⟩
  rw [← hl2] at h1
  clear el2 hl2 HG2 HM2 e1
  go_wp2_with (first | (go_at_call 35; (with_reducible refine (len_w A' l2.length c' _).mono ?_); rintro e w3 ⟨rfl, rfl⟩) | ((with_reducible refine gate_dst (N := 11) rfl ?_); rw [HW.out]) | (go_at_call 18; (with_reducible refine (up_w HG3.out HM3.out (Nat.le_trans (by have := HG.out; omega) HF2.out.hb.size) l.length (by rw [HE.out.2]; omega) (by rw [HE.out.2]; have := HG.out.2.1; omega)).mono ?_); rintro e w4 ⟨rfl, hM, hF⟩; have HM4 := Aside0.mk hM; have HF4 := Aside0.mk hF; clear hM hF))
  exact bodyPost_end (results_none rfl _ _ _) rfl ⟨rfl, A', c', by rw [← HE.out.2]; exact HF4.out.kp _ _ HG3.out ⟨by decide, by decide⟩, by rw [← HE.out.2, ← HE.out.1]; exact HM4.out, HF2.out.trans (HF4.out.g g)⟩
def remE (l : List El) (i k : Nat) : List El := if k = i then l.take k else (fixE (swE l i k) i k).take k
theorem fixE_cases (l : List El) (i n : Nat) (bl : Bool) (h : bl = decide (i < (dnE n l i n).2)) : fixE l i n = if bl = false then upE i (dnE n l i n).1 i else (dnE n l i n).1 := by
  have hge := dnE_ge n l i n
  unfold fixE
  rw [h]
  by_cases hh : (dnE n l i n).2 = i
  · rw [if_pos hh, if_pos (decide_eq_false (by omega))]
  · rw [if_neg hh, decide_eq_true (by omega), if_neg (by decide)]
set_option maxHeartbeats 8000000 in
set_option maxRecDepth 100000 in
theorem remove_w {b g : Nat} {w : World} {A : Option Addr} {c : Nat} {m : Value} {l : List El} (hg : w.heap[g]? = some (.cells #[.slice A l.length c, m] 49 (0, 0))) (hbg : b ≤ g) (h : Mo b w (.slice A l.length c) l) (i k : Nat) (hi : i < l.length) (hk : l.length = k + 1) (hlm : l.length ≤ 1000000) :
    Calls Try.prog 16 #[.iface 55 (.pointer (some ⟨g, 0, none⟩)), .int .i64 (i : Int)] w fun e w' => (∃ x : Value, e = .returned x) ∧ w'.heap[g]? = some (.cells #[.slice A k c, m] 49 (0, 0)) ∧ Mo b w' (.slice A k c) (remE l i k) ∧ FrG b g w w' := by
  have HG := Aside0.mk hg
  have HM := Aside0.mk h
  have HJ := Aside0.mk (And.intro hbg (And.intro hi (And.intro hk hlm)))
  have h1 := m_len ((blk_cell hg 0).trans rfl)
  have HW : Aside0 (wrap64 ((l.length : Int) - 1) = (k : Int)) := ⟨by unfold wrap64; omega⟩
  clear hg hbg h hi hk hlm
  go_enter Try.func16, Try.ntmps16
  go_upto_region 2 with (first | (go_at_call 35; (with_reducible refine (len_w A l.length c _).mono ?_); rintro e w3 ⟨rfl, rfl⟩))
  rw [HW.out]
  clear h1
  by_cases hki : k = i
  · subst hki
    have h2 := m_pop (g := g) (W := w3)
    go_wp2_with (first | (go_at_call 41; (with_reducible refine (pop_w HG.out HJ.out.1 HM.out k HJ.out.2.2.1 (by have := HJ.out.2.2.2; omega)).mono ?_); rintro e w4 ⟨x, rfl, hg4, hM4, hF4⟩; have HE := Aside0.mk (And.intro hg4 (And.intro hM4 hF4)); clear hg4 hM4 hF4))
    go_ret
    exact ⟨⟨_, rfl⟩, HE.out.1, by unfold remE; rw [if_pos rfl]; exact HE.out.2.1, HE.out.2.2⟩
  · have d1 : ((k : Int) != (i : Int)) = true := bne_iff_ne.2 (by omega)
    have d2 : decide (k = i) = false := decide_eq_false hki
    have d3 : (k != i) = true := bne_iff_ne.2 hki
    have d4 : (k = i) = False := eq_false hki
    have h2 := m_swap ((blk_cell HG.out 0).trans rfl)
    have HK := Aside0.mk hki
    obtain ⟨l2, el2⟩ : ∃ y, y = swE l i k := ⟨_, rfl⟩
    have hl2 : l2.length = l.length := by rw [el2, swE_len]
    have HL := Aside0.mk (And.intro el2 hl2)
    clear hki el2 hl2
    go_upto_region 4 with (first | (go_at_call 37; (with_reducible refine (swap_w HM.out i k HJ.out.2.1 (by have := HJ.out.2.2.1; omega)).mono ?_); rintro e w4 ⟨rfl, hM4, hF4⟩; have HM4 : Aside0 (Mo b w4 (.slice A l2.length c) l2) := ⟨by rw [HL.out.2, HL.out.1]; exact hM4⟩; have HF4 := Aside0.mk hF4; have HG4 : Aside0 (w4.heap[g]? = some (.cells #[.slice A l2.length c, m] 49 (0, 0))) := ⟨by rw [HL.out.2]; exact hF4.kp _ _ HG.out ⟨by decide, by decide⟩⟩; clear hM4 hF4))
    clear h2 d1 d2 d3 d4
    obtain ⟨bl, ebl⟩ : ∃ x, x = decide (i < (dnE k l2 i k).2) := ⟨_, rfl⟩
    have hfix := fixE_cases l2 i k bl ebl
    have HX := Aside0.mk (And.intro hfix ebl)
    clear hfix ebl
    have HBS : Aside0 (b ≤ w4.heap.size) := ⟨by have := blk_lt HG4.out; have := HJ.out.1; omega⟩
    have HIK : Aside0 (i < k ∧ k ≤ l2.length ∧ l2.length ≤ 1000000) := ⟨by have := HJ.out; have := HK.out; have := HL.out.2; omega⟩
    go_upto_if 20 with (first | (go_at_call 17; (with_reducible refine (down_w HG4.out HM4.out HBS.out i k HIK.out.1 HIK.out.2.1 (by have := HIK.out.2.2; omega)).mono ?_); rintro e w5 ⟨rfl, hM5, hF5⟩; rw [← HX.out.2]; have HM5 := Aside0.mk hM5; have HF5 := Aside0.mk (HF4.out.trans hF5); have HG5 : Aside0 (w5.heap[g]? = some (.cells #[.slice A l2.length c, m] 49 (0, 0))) := ⟨hF5.kp _ _ HG4.out ⟨by decide, by decide⟩⟩; clear hM5 hF5))
    obtain ⟨l3, el3⟩ : ∃ y, y = (dnE k l2 i k).1 := ⟨_, rfl⟩
    have hl3 : l3.length = l2.length := by rw [el3, dnE_len]
    have HM6 : Aside0 (Mo b w5 (.slice A l3.length c) l3) := ⟨by rw [hl3, el3]; exact HM5.out⟩
    have HG6 : Aside0 (w5.heap[g]? = some (.cells #[.slice A l3.length c, m] 49 (0, 0))) := ⟨by rw [hl3]; exact HG5.out⟩
    have HL3 := Aside0.mk (And.intro el3 hl3)
    clear el3 hl3 HM4 HG4 HM5 HG5
    cases bl
    · go_upto_region 6 with (first | (go_at_call 18; (with_reducible refine (up_w HG6.out HM6.out (Nat.le_trans (by have := blk_lt HG.out; have := HJ.out.1; omega) HF5.out.hb.size) i (by have := HIK.out; have := HL3.out.2; omega) (by have := HIK.out; have := HL3.out.2; omega)).mono ?_); rintro e w6 ⟨rfl, hM7, hF7⟩; have HM7 := Aside0.mk hM7; have HF7 := Aside0.mk (HF5.out.trans hF7); have HG7 : Aside0 (w6.heap[g]? = some (.cells #[.slice A l3.length c, m] 49 (0, 0))) := ⟨hF7.kp _ _ HG6.out ⟨by decide, by decide⟩⟩; clear hM7 hF7))
      obtain ⟨l4, el4⟩ : ∃ y, y = upE i l3 i := ⟨_, rfl⟩
      have hl4 : l4.length = l.length := by rw [el4]; have := HL3.out.2; have := HL.out.2; rw [upE_len]; omega
      have hfx : fixE l2 i k = l4 := by rw [el4, HX.out.1, HL3.out.1]; rfl
      have HM8 : Aside0 (Mo b w6 (.slice A l4.length c) l4) := ⟨by rw [hl4, ← HL.out.2, ← HL3.out.2, el4]; exact HM7.out⟩
      have HG8 : Aside0 (w6.heap[g]? = some (.cells #[.slice A l4.length c, m] 49 (0, 0))) := ⟨by rw [hl4, ← HL.out.2, ← HL3.out.2]; exact HG7.out⟩
      have HR : Aside0 (remE l i k = l4.take k) := ⟨by unfold remE; rw [if_neg (fun e => HK.out e), ← HL.out.1, hfx]⟩
      have HL4 := Aside0.mk hl4
      have h2 := m_pop (g := g) (W := w6)
      clear hfx el4 hl4
      go_wp2_with (first | (go_at_call 41; (with_reducible refine (pop_w HG8.out HJ.out.1 HM8.out k (by rw [HL4.out]; exact HJ.out.2.2.1) (by rw [HL4.out]; have := HJ.out.2.2.2; omega)).mono ?_); rintro e w7 ⟨x, rfl, hg9, hM9, hF9⟩; have HE := Aside0.mk (And.intro hg9 (And.intro hM9 hF9)); clear hg9 hM9 hF9))
      go_ret
      exact ⟨⟨_, rfl⟩, HE.out.1, by rw [HR.out]; exact HE.out.2.1, (HF7.out.g g).trans HE.out.2.2⟩
    · go_upto_region 6 with fail
      obtain ⟨l4, el4⟩ : ∃ y, y = l3 := ⟨_, rfl⟩
      have hl4 : l4.length = l.length := by rw [el4]; have := HL3.out.2; have := HL.out.2; skip; omega
      have hfx : fixE l2 i k = l4 := by rw [el4, HX.out.1, HL3.out.1]; rfl
      have HM8 : Aside0 (Mo b w5 (.slice A l4.length c) l4) := ⟨by rw [hl4, ← HL.out.2, ← HL3.out.2, el4]; exact HM6.out⟩
      have HG8 : Aside0 (w5.heap[g]? = some (.cells #[.slice A l4.length c, m] 49 (0, 0))) := ⟨by rw [hl4, ← HL.out.2, ← HL3.out.2]; exact HG6.out⟩
      have HR : Aside0 (remE l i k = l4.take k) := ⟨by unfold remE; rw [if_neg (fun e => HK.out e), ← HL.out.1, hfx]⟩
      have HL4 := Aside0.mk hl4
      have h2 := m_pop (g := g) (W := w5)
      clear hfx el4 hl4
      go_wp2_with (first | (go_at_call 41; (with_reducible refine (pop_w HG8.out HJ.out.1 HM8.out k (by rw [HL4.out]; exact HJ.out.2.2.1) (by rw [HL4.out]; have := HJ.out.2.2.2; omega)).mono ?_); rintro e w7 ⟨x, rfl, hg9, hM9, hF9⟩; have HE := Aside0.mk (And.intro hg9 (And.intro hM9 hF9)); clear hg9 hM9 hF9))
      go_ret
      exact ⟨⟨_, rfl⟩, HE.out.1, by rw [HR.out]; exact HE.out.2.1, (HF5.out.g g).trans HE.out.2.2⟩

/-! ### what a bell holds: who, and when -/
def HasM (l : List El) (m : Int → Option Int) : Prop := ∀ (w a : Int), m w = some a ↔ ∃ p ∈ l, p.2 = (a, w)
def updM (m : Int → Option Int) (who : Int) (v : Option Int) : Int → Option Int := fun w => if w = who then v else m w
theorem HasM.perm {l l' : List El} {m : Int → Option Int} (h : HasM l m) (hp : l'.Perm l) : HasM l' m := fun w a => by
  rw [h w a]
  constructor
  · rintro ⟨p, hp1, hp2⟩; exact ⟨p, hp.mem_iff.2 hp1, hp2⟩
  · rintro ⟨p, hp1, hp2⟩; exact ⟨p, hp.mem_iff.1 hp1, hp2⟩
def whoN (l : List El) : Prop := (l.map (fun p => p.2.2)).Nodup
theorem whoN.perm {l l' : List El} (h : whoN l) (hp : l'.Perm l) : whoN l' := (hp.map _).nodup_iff.2 h
theorem whoN.inj {l : List El} (h : whoN l) {i j : Nat} (hi : i < l.length) (hj : j < l.length) (e : l[i].2.2 = l[j].2.2) : i = j := by
  unfold whoN List.Nodup at h
  rw [List.pairwise_iff_getElem] at h
  rcases Nat.lt_trichotomy i j with c | c | c
  · exact absurd (by rw [List.getElem_map, List.getElem_map]; exact e) (h i j (by simpa using hi) (by simpa using hj) c)
  · exact c
  · exact absurd (by rw [List.getElem_map, List.getElem_map]; exact e.symm) (h j i (by simpa using hj) (by simpa using hi) c)
theorem whoN.eq {l : List El} (h : whoN l) {p q : El} (hp : p ∈ l) (hq : q ∈ l) (e : p.2.2 = q.2.2) : p = q := by
  obtain ⟨i, hi, rfl⟩ := List.getElem_of_mem hp
  obtain ⟨j, hj, rfl⟩ := List.getElem_of_mem hq
  have := h.inj hi hj e
  subst this
  rfl
/-- The same one, set anew. -/
def reset (who at_ : Int) (p : El) : El := if p.2.2 = who then (p.1, at_, p.2.2) else p
theorem reset_set {l : List El} (h : whoN l) {x : Nat} (hx : x < l.length) (at_ : Int) : l.map (reset (l.getD x d0).2.2 at_) = l.set x ((l.getD x d0).1, at_, (l.getD x d0).2.2) := by
  obtain ⟨q, hq⟩ : ∃ q, q = l.getD x d0 := ⟨_, rfl⟩
  rw [← hq]
  rw [getD_of hx] at hq
  refine List.ext_getElem (by simp) (fun i h1 h2 => ?_)
  rw [List.getElem_map, List.getElem_set]
  have hi : i < l.length := by simpa using h1
  by_cases e : x = i
  · subst e
    rw [if_pos rfl, ← hq]
    unfold reset
    rw [if_pos rfl]
  · rw [if_neg e]
    unfold reset
    rw [if_neg (fun e2 => e ?_)]
    exact (h.inj hi hx (by rw [e2, hq])).symm
theorem reset_who (who at_ : Int) (l : List El) : (l.map (reset who at_)).map (fun p => p.2.2) = l.map (fun p => p.2.2) := by
  rw [List.map_map]
  refine List.map_congr_left fun p _ => ?_
  show (reset who at_ p).2.2 = p.2.2
  unfold reset
  split <;> rfl
theorem reset_has {l : List El} {m : Int → Option Int} (h : HasM l m) (who at_ : Int) (hw : ∃ p ∈ l, p.2.2 = who) : HasM (l.map (reset who at_)) (updM m who (some at_)) := fun w a => by
  unfold updM
  by_cases e : w = who
  · subst e
    rw [if_pos rfl]
    constructor
    · rintro ⟨⟩
      obtain ⟨p, hp, e1⟩ := hw
      refine ⟨reset w at_ p, List.mem_map.2 ⟨p, hp, rfl⟩, ?_⟩
      unfold reset
      rw [if_pos e1]
      show (at_, p.2.2) = (at_, w)
      rw [e1]
    · rintro ⟨q, hq, e1⟩
      obtain ⟨p, hp, rfl⟩ := List.mem_map.1 hq
      unfold reset at e1
      split at e1
      · have e2 : (at_, p.2.2) = (a, w) := e1
        injection e2 with e3
        rw [e3]
      · rename_i hne
        exact absurd (by rw [e1]) hne
  · rw [if_neg e, h w a]
    constructor
    · rintro ⟨p, hp, e1⟩
      refine ⟨reset who at_ p, List.mem_map.2 ⟨p, hp, rfl⟩, ?_⟩
      unfold reset
      rw [if_neg (fun e2 => e (by rw [← e2, e1]))]
      exact e1
    · rintro ⟨q, hq, e1⟩
      obtain ⟨p, hp, rfl⟩ := List.mem_map.1 hq
      unfold reset at e1
      split at e1
      · rename_i e2
        have e3 : (at_, p.2.2) = (a, w) := e1
        injection e3 with _ e4
        exact absurd (e4.symm.trans e2) e
      · exact ⟨p, hp, e1⟩
theorem add_has {l : List El} {m : Int → Option Int} (h : HasM l m) (x : El) (hw : ∀ p ∈ l, p.2.2 ≠ x.2.2) : HasM (l ++ [x]) (updM m x.2.2 (some x.2.1)) := fun w a => by
  unfold updM
  by_cases e : w = x.2.2
  · subst e
    rw [if_pos rfl]
    constructor
    · rintro ⟨⟩
      exact ⟨x, by simp, rfl⟩
    · rintro ⟨p, hp, e1⟩
      rcases List.mem_append.1 hp with hp | hp
      · exact absurd (by rw [e1]) (hw p hp)
      · obtain rfl := List.mem_singleton.1 hp
        rw [e1]
  · rw [if_neg e, h w a]
    constructor
    · rintro ⟨p, hp, e1⟩; exact ⟨p, List.mem_append.2 (Or.inl hp), e1⟩
    · rintro ⟨p, hp, e1⟩
      rcases List.mem_append.1 hp with hp | hp
      · exact ⟨p, hp, e1⟩
      · obtain rfl := List.mem_singleton.1 hp
        exact absurd (by rw [e1]) e
theorem del_has {l r : List El} {m : Int → Option Int} (h : HasM l m) (x : El) (hp : (r ++ [x]).Perm l) (hn : whoN l) : HasM r (updM m x.2.2 none) := fun w a => by
  have hn2 : whoN (r ++ [x]) := hn.perm hp
  have hne : ∀ p ∈ r, p.2.2 ≠ x.2.2 := fun p hpr e => by
    unfold whoN at hn2
    rw [List.map_append, List.nodup_append] at hn2
    exact hn2.2.2 p.2.2 (List.mem_map.2 ⟨p, hpr, rfl⟩) x.2.2 (by simp) e
  unfold updM
  by_cases e : w = x.2.2
  · subst e
    rw [if_pos rfl]
    constructor
    · intro h; cases h
    · rintro ⟨p, hpr, e1⟩
      exact absurd (by rw [e1]) (hne p hpr)
  · rw [if_neg e, h w a]
    constructor
    · rintro ⟨p, hpl, e1⟩
      rcases List.mem_append.1 (hp.mem_iff.2 hpl) with h1 | h1
      · exact ⟨p, h1, e1⟩
      · obtain rfl := List.mem_singleton.1 h1
        exact absurd (by rw [e1]) e
    · rintro ⟨p, hpr, e1⟩
      exact ⟨p, hp.mem_iff.1 (List.mem_append.2 (Or.inl hpr)), e1⟩
theorem take_last {l : List El} {k : Nat} (hk : l.length = k + 1) : l.take k ++ [l.getD k d0] = l := by
  rw [getD_of (by omega)]
  conv => rhs; rw [← List.take_length (l := l), hk, List.take_succ_eq_append_getElem (by omega)]
theorem rem_perm (l : List El) (i k : Nat) (hi : i < l.length) (hk : l.length = k + 1) : (remE l i k ++ [l.getD i d0]).Perm l := by
  unfold remE
  by_cases e : k = i
  · subst e
    rw [if_pos rfl, take_last hk]
  · rw [if_neg e]
    have h1 : (fixE (swE l i k) i k).length = k + 1 := by rw [fix_len, swE_len, hk]
    have h2 : (fixE (swE l i k) i k).getD k d0 = l.getD i d0 := by
      rw [fix_tail (swE l i k) i k k (by omega) (by rw [swE_len]; omega) (Nat.le_refl _), swE_get l i k k hi (by omega), if_pos rfl]
    have h3 := take_last h1
    rw [h2] at h3
    rw [h3]
    exact (fix_perm (swE l i k) i k (by omega) (by rw [swE_len]; omega)).trans (swE_perm l i k hi (by omega))
theorem getD_take {l : List El} {k x : Nat} (h : x < k) : (l.take k).getD x d0 = l.getD x d0 := by
  rw [List.getD_eq_getElem?_getD, List.getD_eq_getElem?_getD, List.getElem?_take, if_pos h]
theorem hp_take {l : List El} {k : Nat} (h : Hp l k) : Hp (l.take k) k := fun j h0 hj => by
  rw [getD_take (by omega), getD_take hj]
  exact h j h0 hj
theorem rem_hp {l : List El} (h : Hp l l.length) (i k : Nat) (hi : i < l.length) (hk : l.length = k + 1) : Hp (remE l i k) k := by
  have h' : Hp l k := fun j h0 hj => h j h0 (by omega)
  unfold remE
  by_cases e : k = i
  · rw [if_pos e]
    exact hp_take h'
  · rw [if_neg e]
    refine hp_take (fix_ok _ i k (by omega) (by rw [swE_len]; omega) (md_of h' (fun x hx hne => ?_) (by omega)))
    rw [swE_get l i k x hi (by omega), if_neg (by omega), if_neg hne]
theorem set_hp {l : List El} (h : Hp l l.length) (x : Nat) (hx : x < l.length) (e : El) : Hp (fixE (l.set x e) x l.length) l.length := by
  refine fix_ok _ x l.length hx (by simp) (md_of h (fun y hy hne => ?_) hx)
  simp [List.getD_eq_getElem?_getD, Ne.symm hne]
theorem rem_len (l : List El) (i k : Nat) (hk : l.length = k + 1) : (remE l i k).length = k := by
  unfold remE
  split
  · rw [List.length_take]; omega
  · rw [List.length_take, fix_len, swE_len]; omega

/-! ### the map: whom, and where -/
def EsOf (es : Array MapEntry) (ks : List El) : Prop := es.toList.map (fun e => (e.key, e.val)) = ks.map (fun p => (Value.int .i64 p.2.2, ptrE p))
theorem EsOf.len {es : Array MapEntry} {ks : List El} (h : EsOf es ks) : es.toList.length = ks.length := by
  have := congrArg List.length h
  simpa using this
theorem EsOf.at {es : Array MapEntry} {ks : List El} (h : EsOf es ks) {j : Nat} {e : MapEntry} (hj : es.toList[j]? = some e) : ∃ p, ks[j]? = some p ∧ e.key = .int .i64 p.2.2 ∧ e.val = ptrE p := by
  have h1 : (es.toList.map (fun e => (e.key, e.val)))[j]? = some (e.key, e.val) := by rw [List.getElem?_map, hj]; rfl
  rw [h, List.getElem?_map] at h1
  obtain ⟨p, hp, e1⟩ := Option.map_eq_some_iff.1 h1
  injection e1 with e2 e3
  exact ⟨p, hp, e2.symm, e3.symm⟩
theorem EsOf.keys {es : Array MapEntry} {ks : List El} (h : EsOf es ks) : ∀ x ∈ es.toList, Go.MapKept.IsKey (.int .i64) x.key := fun x hx => by
  obtain ⟨j, hj, rfl⟩ := List.getElem_of_mem hx
  obtain ⟨p, _, e, _⟩ := h.at (List.getElem?_eq_getElem hj)
  rw [e]
  exact rfl
theorem find_w {es : Array MapEntry} {ks : List El} (h : EsOf es ks) (who : Int) :
    (Instr.findNow (.int .i64) (.int .i64 who) es.toList 0 = some none ∧ ∀ p ∈ ks, p.2.2 ≠ who) ∨ ∃ j p, Instr.findNow (.int .i64) (.int .i64 who) es.toList 0 = some (some (j, ptrE p)) ∧ ks[j]? = some p ∧ p.2.2 = who := by
  rcases Go.MapKept.findNow_spec (d := .int .i64) (k := .int .i64 who) rfl es.toList 0 h.keys with ⟨h1, h2⟩ | ⟨j, e, h1, h2, h3⟩
  · refine Or.inl ⟨h1, fun p hp e => ?_⟩
    obtain ⟨j, hj, rfl⟩ := List.getElem_of_mem hp
    obtain ⟨p', hp', e1, _⟩ := h.at (List.getElem?_eq_getElem (by rw [h.len]; exact hj))
    rw [List.getElem?_eq_getElem hj] at hp'
    obtain rfl := Option.some.inj hp'
    exact h2 _ (List.getElem_mem (by rw [h.len]; exact hj)) (by rw [e1, e])
  · obtain ⟨p, hp, e1, e2⟩ := h.at h2
    refine Or.inr ⟨j, p, by rw [h1, e2, Nat.zero_add], hp, ?_⟩
    rw [h3] at e1
    injection e1 with _ e1
    exact e1.symm
section
variable {W : World} {mb : Nat} {es : Array MapEntry} {ck : Nat} {ks : List El} {who : Int}
theorem look_none (hb : W.heap[mb]? = some (.map es ck)) (h : EsOf es ks) (hn : ∀ p ∈ ks, p.2.2 ≠ who) (ok : Bool) : (Instr.lookup 45 (.map (some mb)) (.int .i64 who) ok).run Try.prog W = .ok (if ok then .tuple #[.pointer none, .bool false] else .pointer none) W := by
  have hf : Instr.findNow (.int .i64) (.int .i64 who) es.toList 0 = some none := by
    rcases find_w h who with ⟨h1, _⟩ | ⟨j, p, _, h2, h3⟩
    · exact h1
    · exact absurd h3 (hn p (List.mem_of_getElem? h2))
  have hz : (zeroValue 50).run Try.prog W = .ok (.pointer none) W := by rfl
  have hk : Go.MapKept.IsKey (.int .i64) (.int .i64 who) := rfl
  unfold Instr.lookup
  simp only [Sem.run_bind, run_underlying Try.underlying45, Go.MapKept.run_getObj_map hb, Go.MapKept.run_checkKey Try.underlying3 hk, Go.MapKept.run_findKey Try.underlying3 hf, hz, Result.andThen, Sem.run_pure]
theorem look_some (hb : W.heap[mb]? = some (.map es ck)) (h : EsOf es ks) (hn : whoN ks) {p : El} (hp : p ∈ ks) (hw : p.2.2 = who) (ok : Bool) : (Instr.lookup 45 (.map (some mb)) (.int .i64 who) ok).run Try.prog W = .ok (if ok then .tuple #[ptrE p, .bool true] else ptrE p) W := by
  obtain ⟨j, hf⟩ : ∃ j, Instr.findNow (.int .i64) (.int .i64 who) es.toList 0 = some (some (j, ptrE p)) := by
    rcases find_w h who with ⟨_, h2⟩ | ⟨j, q, h1, h2, h3⟩
    · exact absurd hw (h2 p hp)
    · have := hn.eq (List.mem_of_getElem? h2) hp (h3.trans hw.symm)
      subst this
      exact ⟨j, h1⟩
  have hk : Go.MapKept.IsKey (.int .i64) (.int .i64 who) := rfl
  unfold Instr.lookup
  simp only [Sem.run_bind, run_underlying Try.underlying45, Go.MapKept.run_getObj_map hb, Go.MapKept.run_checkKey Try.underlying3 hk, Go.MapKept.run_findKey Try.underlying3 hf, Result.andThen, Sem.run_pure]
/-- The world in which a block holds something else. -/
def wput (W : World) (mb : Nat) (o : Obj) : World := { W with heap := W.heap.setIfInBounds mb o }
theorem update_w (hb : W.heap[mb]? = some (.map es ck)) (h : EsOf es ks) (hn : ∀ p ∈ ks, p.2.2 ≠ who) (v : Value) : (Instr.mapUpdate 45 (.map (some mb)) (.int .i64 who) v).run Try.prog W = .ok () (wput W mb (.map (es.push { key := .int .i64 who, val := v, born := ck }) (ck + 1))) := by
  have hf : Instr.findNow (.int .i64) (.int .i64 who) es.toList 0 = some none := by
    rcases find_w h who with ⟨h1, _⟩ | ⟨j, p, _, h2, h3⟩
    · exact h1
    · exact absurd h3 (hn p (List.mem_of_getElem? h2))
  have hk : Go.MapKept.IsKey (.int .i64) (.int .i64 who) := rfl
  unfold Instr.mapUpdate
  simp only [Sem.run_bind, run_underlying Try.underlying45, Go.MapKept.run_getObj_map hb, Go.MapKept.run_checkKey Try.underlying3 hk, Go.MapKept.run_findKey Try.underlying3 hf, Go.MapKept.run_setObj_map _ hb, Result.andThen]
  rfl
theorem delete_w (hb : W.heap[mb]? = some (.map es ck)) (h : EsOf es ks) (hn : whoN ks) {p : El} (hp : p ∈ ks) (hw : p.2.2 = who) : ∃ j, ks[j]? = some p ∧ ∀ ty : TypeId, (Builtin.delete_ #[45, 3] ty #[.map (some mb), .int .i64 who]).run Try.prog W = .ok (.tuple #[]) (wput W mb (.map (es.eraseIdxIfInBounds j) ck)) := by
  obtain ⟨j, hf, hj⟩ : ∃ j, Instr.findNow (.int .i64) (.int .i64 who) es.toList 0 = some (some (j, ptrE p)) ∧ ks[j]? = some p := by
    rcases find_w h who with ⟨_, h2⟩ | ⟨j, q, h1, h2, h3⟩
    · exact absurd hw (h2 p hp)
    · have := hn.eq (List.mem_of_getElem? h2) hp (h3.trans hw.symm)
      subst this
      exact ⟨j, h1, h2⟩
  have hk : Go.MapKept.IsKey (.int .i64) (.int .i64 who) := rfl
  refine ⟨j, hj, fun ty => ?_⟩
  simp [Builtin.delete_, run_underlying Try.underlying45, Go.MapKept.run_getObj_map hb, Go.MapKept.run_checkKey Try.underlying3 hk, Go.MapKept.run_findKey Try.underlying3 hf, Go.MapKept.run_setObj_map _ hb, Result.andThen]
  rfl
end
theorem EsOf.push {es : Array MapEntry} {ks : List El} (h : EsOf es ks) (x : El) (ck : Nat) : EsOf (es.push { key := .int .i64 x.2.2, val := ptrE x, born := ck }) (ks ++ [x]) := by
  unfold EsOf at *
  rw [Array.toList_push, List.map_append, List.map_append, h]
  rfl
theorem EsOf.erase {es : Array MapEntry} {ks : List El} (h : EsOf es ks) {j : Nat} {p : El} (hj : ks[j]? = some p) : EsOf (es.eraseIdxIfInBounds j) (ks.eraseIdx j) := by
  have hlt : j < es.size := by
    have := (List.getElem?_eq_some_iff.1 hj).1
    have := h.len
    simpa using (by omega : j < es.toList.length)
  unfold EsOf at *
  rw [Array.eraseIdxIfInBounds, dif_pos hlt, Array.toList_eraseIdx]
  simp only [List.eraseIdx_eq_take_drop_succ, List.map_append, List.map_take, List.map_drop, h]
theorem erase_perm {ks : List El} {j : Nat} {p : El} (hj : ks[j]? = some p) : (ks.eraseIdx j ++ [p]).Perm ks := by
  have hlt := (List.getElem?_eq_some_iff.1 hj).1
  have e := (List.getElem?_eq_some_iff.1 hj).2
  refine (List.perm_append_comm).trans ?_
  show (p :: ks.eraseIdx j).Perm ks
  have e2 : ks = ks.take j ++ p :: ks.drop (j + 1) := by
    rw [← e]
    conv => lhs; rw [← List.take_append_drop j ks, List.drop_eq_getElem_cons hlt]
  conv => rhs; rw [e2]
  rw [List.eraseIdx_eq_take_drop_succ]
  exact List.perm_middle.symm
theorem esOf_reset {es : Array MapEntry} {ks : List El} (h : EsOf es ks) (who at_ : Int) : EsOf es (ks.map (reset who at_)) := by
  unfold EsOf at *
  rw [h, List.map_map]
  refine List.map_congr_left fun p _ => ?_
  show _ = (Value.int .i64 (reset who at_ p).2.2, ptrE (reset who at_ p))
  unfold reset ptrE
  split <;> rfl

/-! ### the bell: New, Next -/
structure Be (b : Nat) (W : World) (g mb : Nat) (A : Option Addr) (c : Nat) (l : List El) : Prop where
  hg : W.heap[g]? = some (.cells #[.slice A l.length c, .map (some mb)] 49 (0, 0))
  bg : b ≤ g
  bm : b ≤ mb
  mo : Mo b W (.slice A l.length c) l
  mp : ∃ es ck ks, W.heap[mb]? = some (.map es ck) ∧ EsOf es ks ∧ ks.Perm l
  who : whoN l
  hp : Hp l l.length
def BeX (b : Nat) (W : World) (g : Nat) (l : List El) : Prop := ∃ mb A c, Be b W g mb A c l
theorem Be.below {b : Nat} {W W' : World} {g mb : Nat} {A : Option Addr} {c : Nat} {l : List El} (h : Be b W g mb A c l) (hb : Below W.heap.size W W') : Be b W' g mb A c l :=
  ⟨blk_below h.hg hb, h.bg, h.bm, h.mo.below hb, (by obtain ⟨es, ck, ks, h1, h2⟩ := h.mp; exact ⟨es, ck, ks, blk_below h1 hb, h2⟩), h.who, h.hp⟩
theorem BeX.below {b : Nat} {W W' : World} {g : Nat} {l : List El} (h : BeX b W g l) (hb : Below W.heap.size W W') : BeX b W' g l := by
  obtain ⟨mb, A, c, h⟩ := h
  exact ⟨mb, A, c, h.below hb⟩
set_option maxHeartbeats 8000000 in
set_option maxRecDepth 100000 in
theorem new_w (b : Nat) (w : World) (hb : b ≤ w.heap.size) : Calls Try.prog 7 #[] w fun e w' => ∃ g, e = .returned (.pointer (some ⟨g, 0, none⟩)) ∧ BeX b w' g [] ∧ Below w.heap.size w w' := by
  have HB := Aside0.mk hb
  clear hb
  have hmm := @run_makeMap Try.prog
  have hu49 := Try.underlying49
  go_enter Try.func7, Try.ntmps7
  go_wp2_with fail
  go_ret
  have h1 : (w.alloc (.map #[] 0)).heap[w.heap.size]? = some (.map #[] 0) := blk_new w (.map #[] 0)
  have hs : (w.alloc (.map #[] 0)).heap.size = w.heap.size + 1 := by show (w.heap.push _).size = _; rw [Array.size_push]
  have h2 := blk_new (w.alloc (.map #[] 0)) (.cells #[.slice none 0 0, .map (some w.heap.size)] 49)
  rw [hs] at h2
  have hB : Below w.heap.size w ((w.alloc (.map #[] 0)).alloc (.cells #[.slice none 0 0, .map (some w.heap.size)] 49)) := below_alloc (below_alloc (Below.refl _ _) _) _
  have h3 := blk_below h1 (below_alloc (Below.refl _ _) (.cells #[.slice none 0 0, .map (some w.heap.size)] 49))
  exact ⟨_, rfl, ⟨w.heap.size, none, 0, ⟨h2, by have := HB.out; omega, HB.out, ⟨own_nil _ _ _ _, fun x e h => by simp at h, fun x y e f h => by simp at h⟩, ⟨#[], 0, [], h3, rfl, List.Perm.refl _⟩, by simp [whoN], fun j _ hj => absurd hj (by simp)⟩⟩, hB⟩
def nextA (l : List El) : Int := if l = [] then 0 else (l.getD 0 d0).2.1
def nextB (l : List El) : Bool := !l.isEmpty
set_option maxHeartbeats 8000000 in
set_option maxRecDepth 100000 in
theorem next_nil (w : World) : Calls Try.prog 13 #[.pointer none] w fun e w' => e = .returned (.tuple #[.int .i64 0, .bool false]) ∧ w' = w := by
  go_enter Try.func13, Try.ntmps13
  go_wp2
  exact bodyPost_ret (results_tmp2 rfl _ _ _) rfl ⟨rfl, rfl⟩
set_option maxHeartbeats 8000000 in
set_option maxRecDepth 100000 in
theorem next_w {b : Nat} {w : World} {g : Nat} {l : List El} (h : BeX b w g l) : Calls Try.prog 13 #[.pointer (some ⟨g, 0, none⟩)] w fun e w' => e = .returned (.tuple #[.int .i64 (nextA l), .bool (nextB l)]) ∧ w' = w := by
  obtain ⟨mb, A, c, h⟩ := h
  have c0 : w.cell? ⟨g, 0, none⟩ = some (.slice A l.length c) := (blk_cell h.hg 0).trans rfl
  cases l with
  | nil =>
    clear h
    go_enter Try.func13, Try.ntmps13
    go_wp2
    exact bodyPost_ret (results_tmp2 rfl _ _ _) rfl ⟨rfl, rfl⟩
  | cons p l =>
    obtain ⟨ga, cap, cur, e, _, _⟩ := h.mo.rowAt (x := 0) (by simp)
    injection e with e1 e2 e3
    subst e1 e3
    have c1 := (h.mo.ptr (x := 0) (by simp)).1
    have c2 := (h.mo.cells (x := 0) (by simp)).1
    have e0 : (p :: l).getD 0 d0 = p := rfl
    rw [e0] at c1 c2
    unfold ptrE at c1
    have hl : (p :: l).length = l.length + 1 := rfl
    have q1 : ((0 : Int) < (((p :: l).length : Nat) : Int)) = True := eq_true (by omega)
    have q1n : (0 < (p :: l).length) = True := eq_true (by omega)
    have q2 : decide ((((p :: l).length : Nat) : Int) = 0) = false := decide_eq_false (by omega)
    have q3 : ((((p :: l).length : Nat) : Int) == 0) = false := beq_eq_false_iff_ne.2 (by omega)
    clear hl
    have hN : nextA (p :: l) = p.2.1 := rfl
    generalize (p :: l).length = n at *
    have HN := Aside0.mk hN
    clear h e0 hN
    go_enter Try.func13, Try.ntmps13
    go_wp2
    exact bodyPost_ret (results_tmp2 rfl _ _ _) rfl ⟨by rw [HN.out]; rfl, rfl⟩

end Go.Proofs.Ytjmfhlapjghipaa.PAll
