/- The Go functions that the laws reach, as Lean functions, and that each call comes to what its function says. Written by a program of this session (a turned copy of the kit's print). No condition beyond those that each theorem states. -/
import Derived.Test.YtpicmnkkkgedeaaDoorPAllx0
import Derived.Test.YtpicmnkkkgedeaaDoorPAllx1
namespace Go.Proofs.YtpicmnkkkgedeaaDoor.PAll
open Go.RowKit Go.Proofs.YtpicmnkkkgedeaaDoorW.PrintWords Go.Proofs.YtpicmnkkkgedeaaDoorW.PrintLast Go.Proofs.YtpicmnkkkgedeaaDoorW.PrintMore
attribute [local go_sem] max2_int min2_int max_two min_two max_three min_three max_four min_four   -- for this text's walks alone
set_option linter.unusedVariables false
set_option linter.unusedSimpArgs false

theorem ideal_Sound.keepB {W0 W w1 : World} {g : Nat} {o : Obj} (h : Aside0 (W0.heap[g]? = some o)) (hb : Below W.heap.size W w1) (hs : W0.heap[g]? = some o → W.heap[g]? = some o := by intro h_; (with_reducible repeat (first | refine blk_drewN ?_ _ | refine blk_drew ?_ | refine blk_alloc ?_ _)); exact h_) : Aside0 (w1.heap[g]? = some o) := ⟨(hb.block g (blk_lt (hs h.out))).trans (hs h.out)⟩
theorem ideal_Sound.neL {W0 W : World} {g gb : Nat} {o : Obj} (h : Aside0 (W0.heap[g]? = some o)) (hg : gb = W.heap.size) (hs : W0.heap[g]? = some o → W.heap[g]? = some o := by intro h_; (with_reducible repeat (first | refine blk_drewN ?_ _ | refine blk_drew ?_ | refine blk_alloc ?_ _)); exact h_) : Aside0 (g ≠ gb) := ⟨by rw [hg]; exact Nat.ne_of_lt (blk_lt (hs h.out))⟩
theorem ideal_Sound.neG {W0 W : World} {g gb : Nat} {o : Obj} (h : Aside0 (W0.heap[g]? = some o)) (hg : gb = W.heap.size) (hs : W0.heap[g]? = some o → W.heap[g]? = some o := by intro h_; (with_reducible repeat (first | refine blk_drewN ?_ _ | refine blk_drew ?_ | refine blk_alloc ?_ _)); exact h_) : Aside0 (gb ≠ g) := ⟨by rw [hg]; exact Nat.ne_of_gt (blk_lt (hs h.out))⟩
/-! ### ideal_Sound: function 10 -/
mutual
def ideal_Sound.j0 : Nat → Int → Int → Bool → List (List Int) → List (List (List Int)) → Option (Bool)
  | 0, _, _, _, _, _ => none
  | k + 1, x1, x2, x43, x102000, x102001 => if x43 = true then (some false) else (ideal_Sound.l0 k x1 x2 x102001 (x102001.length : Int) 0)
def ideal_Sound.l0 : Nat → Int → Int → List (List (List Int)) → Int → Int → Option (Bool)
  | 0, _, _, _, _, _ => none
  | k + 1, x1, x2, x45, x46, x47 => if x47 < x46 then (if 0 ≤ x47 then (if x47 < (x45.length : Int) then (if ((rd_L2 x45 x47).length : Int) = x1 then (if 0 ≤ (wrap64 (x47 + 1)) then (if (wrap64 (x47 + 1)) ≤ ((rd_L2 x45 x47).length : Int) then ((ideal_even.f ((rd_L2 x45 x47).take ((wrap64 (x47 + 1)) : Int).toNat) 0).bind fun t108 => (if t108 = true then ((ideal_even.f ((rd_L2 x45 x47).drop ((wrap64 (x47 + 1)) : Int).toNat) x2).bind fun t113 => (if t113 = true then (ideal_Sound.l0 k x1 x2 x45 x46 (wrap64 (x47 + 1))) else (some false))) else (some false))) else (none)) else (none)) else (some false)) else (none)) else (none)) else (some true)
end
def ideal_Sound.f (k : Nat) (l0_0 : List (List Int)) (l0_1 : List (List (List Int))) (a1 : Int) (a2 : Int) : Option (Bool) := if a1 < 1 then (ideal_Sound.j0 k a1 a2 true l0_0 l0_1) else (if a1 > 64 then (ideal_Sound.j0 k a1 a2 true l0_0 l0_1) else (if a2 < 0 then (ideal_Sound.j0 k a1 a2 true l0_0 l0_1) else (if a2 > 256 then (ideal_Sound.j0 k a1 a2 true l0_0 l0_1) else (if (l0_0.length : Int) = a1 then (if (l0_1.length : Int) = a1 then ((ideal_even.f l0_0 a2).bind fun t102 => (ideal_Sound.j0 k a1 a2 (!t102) l0_0 l0_1)) else (ideal_Sound.j0 k a1 a2 true l0_0 l0_1)) else (ideal_Sound.j0 k a1 a2 true l0_0 l0_1)))))
theorem ideal_Sound.mono_l : ∀ k, (∀ y0 y1 y2 y3 y4, LeO (ideal_Sound.j0 k y0 y1 y2 y3 y4) (ideal_Sound.j0 (k + 1) y0 y1 y2 y3 y4)) ∧ (∀ y0 y1 y2 y3 y4, LeO (ideal_Sound.l0 k y0 y1 y2 y3 y4) (ideal_Sound.l0 (k + 1) y0 y1 y2 y3 y4))
  | 0 => ⟨fun _ _ _ _ _ r h => by simp [ideal_Sound.j0] at h, fun _ _ _ _ _ r h => by simp [ideal_Sound.l0] at h⟩
  | k + 1 => by
    obtain ⟨ih0, ih1⟩ := ideal_Sound.mono_l k
    refine ⟨?_, ?_⟩
    · intro y0 y1 y2 y3 y4
      unfold ideal_Sound.j0
      repeat' first
      | (with_reducible exact ih0 _ _ _ _ _)
      | (with_reducible exact ih1 _ _ _ _ _)
      | (with_reducible exact LeO.refl _)
      | (with_reducible exact LeO.none _)
      | (with_reducible refine LeO.ite ?_ ?_)
      | (with_reducible refine LeO.bind ?_ (fun _ => ?_))
      | exact ih0 _ _ _ _ _
      | exact ih1 _ _ _ _ _
      | exact LeO.none _
      | refine LeO.ite ?_ ?_
      | refine LeO.bind ?_ (fun _ => ?_)
    · intro y0 y1 y2 y3 y4
      unfold ideal_Sound.l0
      repeat' first
      | (with_reducible exact ih0 _ _ _ _ _)
      | (with_reducible exact ih1 _ _ _ _ _)
      | (with_reducible exact LeO.refl _)
      | (with_reducible exact LeO.none _)
      | (with_reducible refine LeO.ite ?_ ?_)
      | (with_reducible refine LeO.bind ?_ (fun _ => ?_))
      | exact ih0 _ _ _ _ _
      | exact ih1 _ _ _ _ _
      | exact LeO.none _
      | refine LeO.ite ?_ ?_
      | refine LeO.bind ?_ (fun _ => ?_)
theorem ideal_Sound.mono : ∀ a0 a1 a2 a3 k, LeO (ideal_Sound.f k a0 a1 a2 a3) (ideal_Sound.f (k + 1) a0 a1 a2 a3) := by
  intro a0 a1 a2 a3 k
  obtain ⟨ih0, ih1⟩ := ideal_Sound.mono_l k
  unfold ideal_Sound.f
  repeat' first
      | (with_reducible exact ih0 _ _ _ _ _)
      | (with_reducible exact ih1 _ _ _ _ _)
      | (with_reducible exact LeO.refl _)
      | (with_reducible exact LeO.none _)
      | (with_reducible refine LeO.ite ?_ ?_)
      | (with_reducible refine LeO.bind ?_ (fun _ => ?_))
      | exact ih0 _ _ _ _ _
      | exact ih1 _ _ _ _ _
      | exact LeO.none _
      | refine LeO.ite ?_ ?_
      | refine LeO.bind ?_ (fun _ => ?_)
set_option maxHeartbeats 8000000 in
set_option maxRecDepth 100000 in
theorem ideal_Sound.calls (k : Nat) (A0_0 : Option Addr) (c0_0 : Nat) (l0_0 : List (List Int)) (A0_1 : Option Addr) (c0_1 : Nat) (l0_1 : List (List (List Int))) (a1 : Int) (a2 : Int) (r : Bool) (w : World) (hr0_0 : Kd.C (Kd.slice 37 (Kd.int .u32)) w A0_0 l0_0.length l0_0) (hc0_0 : l0_0.length ≤ c0_0) (hr0_1 : Kd.C (Kd.slice 35 (Kd.slice 37 (Kd.int .u32))) w A0_1 l0_1.length l0_1) (hc0_1 : l0_1.length ≤ c0_1) (h : ideal_Sound.f k l0_0 l0_1 a1 a2 = some r) :
    Calls Tryd.prog 10 #[.agg #[.slice A0_0 l0_0.length c0_0, .slice A0_1 l0_1.length c0_1], .int .i64 a1, .int .i64 a2] w fun e w' => e = .returned (.bool r) ∧ Below w.heap.size w w' := by
  have hu25 := Tryd.underlying25
  have HR0_0 := Aside0.mk hr0_0
  have HC0_0 := Aside0.mk hc0_0
  clear hr0_0 hc0_0
  have HR0_1 := Aside0.mk hr0_1
  have HC0_1 := Aside0.mk hc0_1
  clear hr0_1 hc0_1
  have HB := Aside0.mk (Below.refl w.heap.size w)
  have H : (if a1 < 1 then (ideal_Sound.j0 k a1 a2 true l0_0 l0_1) else (if a1 > 64 then (ideal_Sound.j0 k a1 a2 true l0_0 l0_1) else (if a2 < 0 then (ideal_Sound.j0 k a1 a2 true l0_0 l0_1) else (if a2 > 256 then (ideal_Sound.j0 k a1 a2 true l0_0 l0_1) else (if (l0_0.length : Int) = a1 then (if (l0_1.length : Int) = a1 then ((ideal_even.f l0_0 a2).bind fun t102 => (ideal_Sound.j0 k a1 a2 (!t102) l0_0 l0_1)) else (ideal_Sound.j0 k a1 a2 true l0_0 l0_1)) else (ideal_Sound.j0 k a1 a2 true l0_0 l0_1)))))) = some r := h
  clear h
  have HC4 := Aside0.mk H
  clear H
  go_enter Tryd.func10, Tryd.ntmps10
  go_upto_region 1 with (first | ((with_reducible refine gate_dst (N := 3) rfl ?_); (try (refine gate_guard (by rfl) ?_; dsimp only)); refine box_event ?hg (N := 3) ?hd (cs := #[.slice A0_0 l0_0.length c0_0, .slice A0_1 l0_1.length c0_1]) (t := 25) ?hr ?_; (case hd => rfl); (case hg => rfl); (case hr => first | (go_simp; done) | (go_simp; rfl)); intro gb101 hg w5 hbox hb; have n0_ := Aside0.mk (below_step (by repeat (first | (with_reducible first | exact HB.out | apply below_alloc | apply pw_below_drewN | apply below_drew1) | exact HB.out)) hb); have n1_ := Aside0.mk (hbox); have n2_ := Aside0.mk ((by rw [hg]; exact (below_size (by repeat (first | (with_reducible first | exact HB.out | apply below_alloc | apply pw_below_drewN | apply below_drew1) | exact HB.out))) : w.heap.size ≤ gb101)); have n3_ := Aside0.mk ((by rw [hg]; exact (below_size (by repeat (first | (with_reducible first | exact HB.out | apply below_alloc | apply pw_below_drewN | apply below_drew1) | exact HB.out))) : w.heap.size ≤ gb101)); clear HB; have HB := n0_; have BK101 := n1_; have GW101 := n2_; have GE101 := n3_; clear n0_ n1_ n2_ n3_; clear hb hbox hg))
  (try simp only [Act.put, List.setIfInBounds_toArray, List.set_cons_zero, List.set_cons_succ])
  go_cut [43] (fun v43 wc => ∃ (kq : Nat) (x43_3 : Bool), v43 = .bool x43_3 ∧ Aside0 (ideal_Sound.j0 kq a1 a2 x43_3 l0_0 l0_1 = some r) ∧ Aside0 (kq ≤ k) ∧ Aside0 (wc.heap[gb101]? = some (.cells #[(.slice A0_0 l0_0.length c0_0), (.slice A0_1 l0_1.length c0_1)] 25 (0, 0))) ∧ Aside0 (Below w.heap.size w wc))
  case first =>
    have H := HC4.out
    clear HC4
    by_cases c6 : a1 < 1
    · rw [if_pos c6] at H
      have c6b0 : decide (a1 < 1) = true := decide_eq_true c6
      clear c6
      (first | rw [c6b0] | (simp only [i64_w, i32_w]; rw [c6b0]) | skip)
      have H' := Aside0.mk H
      clear H
      go_wp2
      go_meet
      case rel => exact ⟨_, (true), (by first | rfl | (simp; done) | (simp [*]; done)), H', ⟨by first | omega | exact Nat.le_refl _⟩, ⟨by (with_reducible repeat (first | refine blk_drewN ?_ _ | refine blk_drew ?_ | refine blk_alloc ?_ _)); exact BK101.out⟩, ⟨by repeat (first | (with_reducible first | exact HB.out | apply below_alloc | apply pw_below_drewN | apply below_drew1 | refine below_set ?_ GE101.out) | exact HB.out)⟩⟩
    · rw [if_neg c6] at H
      have c6b0 : decide (a1 < 1) = false := decide_eq_false c6
      clear c6
      (first | rw [c6b0] | (simp only [i64_w, i32_w]; rw [c6b0]) | skip)
      by_cases c7 : a1 > 64
      · rw [if_pos c7] at H
        have c7b0 : decide (64 < a1) = true := decide_eq_true c7
        clear c7
        have H' := Aside0.mk H
        clear H
        go_wp2
        go_meet
        case rel => exact ⟨_, (true), (by first | rfl | (simp; done) | (simp [*]; done)), H', ⟨by first | omega | exact Nat.le_refl _⟩, ⟨by (with_reducible repeat (first | refine blk_drewN ?_ _ | refine blk_drew ?_ | refine blk_alloc ?_ _)); exact BK101.out⟩, ⟨by repeat (first | (with_reducible first | exact HB.out | apply below_alloc | apply pw_below_drewN | apply below_drew1 | refine below_set ?_ GE101.out) | exact HB.out)⟩⟩
      · rw [if_neg c7] at H
        have c7b0 : decide (64 < a1) = false := decide_eq_false c7
        clear c7
        by_cases c8 : a2 < 0
        · rw [if_pos c8] at H
          have c8b0 : decide (a2 < 0) = true := decide_eq_true c8
          clear c8
          have H' := Aside0.mk H
          clear H
          go_wp2
          go_meet
          case rel => exact ⟨_, (true), (by first | rfl | (simp; done) | (simp [*]; done)), H', ⟨by first | omega | exact Nat.le_refl _⟩, ⟨by (with_reducible repeat (first | refine blk_drewN ?_ _ | refine blk_drew ?_ | refine blk_alloc ?_ _)); exact BK101.out⟩, ⟨by repeat (first | (with_reducible first | exact HB.out | apply below_alloc | apply pw_below_drewN | apply below_drew1 | refine below_set ?_ GE101.out) | exact HB.out)⟩⟩
        · rw [if_neg c8] at H
          have c8b0 : decide (a2 < 0) = false := decide_eq_false c8
          clear c8
          by_cases c9 : a2 > 256
          · rw [if_pos c9] at H
            have c9b0 : decide (256 < a2) = true := decide_eq_true c9
            clear c9
            have H' := Aside0.mk H
            clear H
            go_wp2
            go_meet
            case rel => exact ⟨_, (true), (by first | rfl | (simp; done) | (simp [*]; done)), H', ⟨by first | omega | exact Nat.le_refl _⟩, ⟨by (with_reducible repeat (first | refine blk_drewN ?_ _ | refine blk_drew ?_ | refine blk_alloc ?_ _)); exact BK101.out⟩, ⟨by repeat (first | (with_reducible first | exact HB.out | apply below_alloc | apply pw_below_drewN | apply below_drew1 | refine below_set ?_ GE101.out) | exact HB.out)⟩⟩
          · rw [if_neg c9] at H
            have c9b0 : decide (256 < a2) = false := decide_eq_false c9
            clear c9
            by_cases c10 : (l0_0.length : Int) = a1
            · rw [if_pos c10] at H
              have c10b0 : ((l0_0.length : Int) == a1) = true := beq_iff_eq.mpr c10
              have c10b1 : ((l0_0.length : Int) != a1) = false := bne_eq_false_iff_eq.mpr c10
              clear c10
              by_cases c11 : (l0_1.length : Int) = a1
              · rw [if_pos c11] at H
                have c11b0 : ((l0_1.length : Int) == a1) = true := beq_iff_eq.mpr c11
                have c11b1 : ((l0_1.length : Int) != a1) = false := bne_eq_false_iff_eq.mpr c11
                clear c11
                replace H := Option.bind_eq_some_iff.mp H
                obtain ⟨t102, A120, H⟩ := H
                replace H : (ideal_Sound.j0 k a1 a2 (!t102) l0_0 l0_1) = some r := H
                have A12 := Aside0.mk A120
                clear A120
                have H' := Aside0.mk H
                clear H
                have hcz13_0 : w5.cell? ⟨gb101, 0, none⟩ = some (.slice A0_0 l0_0.length c0_0) := (blk_cell BK101.out 0).trans rfl
                have hcz13_1 : w5.cell? ⟨gb101, 1, none⟩ = some (.slice A0_1 l0_1.length c0_1) := (blk_cell BK101.out 1).trans rfl
                have hfz13_0 := blk_frozen BK101.out 0
                have hfz13_1 := blk_frozen BK101.out 1
                go_wp2_with (first | (go_at_call 20; (with_reducible refine (ideal_even.calls _ _ l0_0 a2 t102 _ ?side1 ?side2 A12.out).mono ?_); (case side1 => repeat (first | exact (Kd.C_below HR0_0.out HB.out) | (with_reducible refine Kd.C_alloc ?_ _) | (with_reducible refine Kd.C_drewN ?_ _) | (with_reducible refine Kd.C_drew ?_))); (case side2 => exact HC0_0.out); rintro e w14 ⟨rfl, hb⟩; have n0_ := ideal_Sound.keepB BK101 hb; have n1_ := Aside0.mk (below_step (by repeat (first | (with_reducible first | exact HB.out | apply below_alloc | apply pw_below_drewN | apply below_drew1 | refine below_set ?_ GE101.out) | exact HB.out)) hb); clear BK101; clear HB; have BK101 := n0_; have HB := n1_; clear n0_ n1_; (try clear hb); (try clear hb2); (try clear hk); (try clear hi)))
                go_meet
                case rel => exact ⟨_, (!t102), (by first | rfl | (simp; done) | (simp [*]; done)), H', ⟨by first | omega | exact Nat.le_refl _⟩, ⟨by (with_reducible repeat (first | refine blk_drewN ?_ _ | refine blk_drew ?_ | refine blk_alloc ?_ _)); exact BK101.out⟩, ⟨by repeat (first | (with_reducible first | exact HB.out | apply below_alloc | apply pw_below_drewN | apply below_drew1 | refine below_set ?_ GE101.out) | exact HB.out)⟩⟩
              · rw [if_neg c11] at H
                have c11b0 : ((l0_1.length : Int) == a1) = false := beq_eq_false_iff_ne.mpr c11
                have c11b1 : ((l0_1.length : Int) != a1) = true := bne_iff_ne.mpr c11
                have H' := Aside0.mk H
                clear H
                have hcz15_0 : w5.cell? ⟨gb101, 0, none⟩ = some (.slice A0_0 l0_0.length c0_0) := (blk_cell BK101.out 0).trans rfl
                have hcz15_1 : w5.cell? ⟨gb101, 1, none⟩ = some (.slice A0_1 l0_1.length c0_1) := (blk_cell BK101.out 1).trans rfl
                have hfz15_0 := blk_frozen BK101.out 0
                have hfz15_1 := blk_frozen BK101.out 1
                go_wp2
                go_meet
                case rel => exact ⟨_, (true), (by first | rfl | (simp; done) | (simp [*]; done)), H', ⟨by first | omega | exact Nat.le_refl _⟩, ⟨by (with_reducible repeat (first | refine blk_drewN ?_ _ | refine blk_drew ?_ | refine blk_alloc ?_ _)); exact BK101.out⟩, ⟨by repeat (first | (with_reducible first | exact HB.out | apply below_alloc | apply pw_below_drewN | apply below_drew1 | refine below_set ?_ GE101.out) | exact HB.out)⟩⟩
            · rw [if_neg c10] at H
              have c10b0 : ((l0_0.length : Int) == a1) = false := beq_eq_false_iff_ne.mpr c10
              have c10b1 : ((l0_0.length : Int) != a1) = true := bne_iff_ne.mpr c10
              have H' := Aside0.mk H
              clear H
              have hcz16_0 : w5.cell? ⟨gb101, 0, none⟩ = some (.slice A0_0 l0_0.length c0_0) := (blk_cell BK101.out 0).trans rfl
              have hcz16_1 : w5.cell? ⟨gb101, 1, none⟩ = some (.slice A0_1 l0_1.length c0_1) := (blk_cell BK101.out 1).trans rfl
              have hfz16_0 := blk_frozen BK101.out 0
              have hfz16_1 := blk_frozen BK101.out 1
              go_wp2
              go_meet
              case rel => exact ⟨_, (true), (by first | rfl | (simp; done) | (simp [*]; done)), H', ⟨by first | omega | exact Nat.le_refl _⟩, ⟨by (with_reducible repeat (first | refine blk_drewN ?_ _ | refine blk_drew ?_ | refine blk_alloc ?_ _)); exact BK101.out⟩, ⟨by repeat (first | (with_reducible first | exact HB.out | apply below_alloc | apply pw_below_drewN | apply below_drew1 | refine below_set ?_ GE101.out) | exact HB.out)⟩⟩
  case rest =>
    clear HC4
    try clear c1
    try clear p2
    try clear c6
    try clear c6b0
    try clear c7
    try clear c7b0
    try clear c8
    try clear c8b0
    try clear c9
    try clear c9b0
    try clear c10
    try clear c10b0
    try clear c10b1
    try clear c11
    try clear c11b0
    try clear c11b1
    try clear hcz13_0
    try clear hcz13_1
    try clear hcz15_0
    try clear hcz15_1
    try clear hcz16_0
    try clear hcz16_1
    try clear hfz13_0
    try clear hfz13_1
    try clear hfz15_0
    try clear hfz15_1
    try clear hfz16_0
    try clear hfz16_1
    obtain ⟨kq, x43_3, rfl, HA, HJ3, BK101, HB⟩ := hcut
    cases kq with
    | zero => exact absurd HA.out (by simp [ideal_Sound.j0])
    | succ kj3 =>
      have H := HA.out
      clear HA
      simp only [ideal_Sound.j0] at H
      by_cases c17 : x43_3 = true
      · subst c17
        have H1 : (some false) = some r := by rw [if_pos rfl] at H; exact H
        clear H
        have H := H1
        clear H1
        obtain rfl := Option.some.inj H
        go_wp2
        go_ret
        exact ⟨by first | rfl | (simp [errW_none, errW_some] <;> rfl) | (simp [*, errW_none, errW_some] <;> rfl), by repeat (first | (with_reducible first | exact HB.out | apply below_alloc | apply pw_below_drewN | apply below_drew1 | refine below_set ?_ GE101.out) | exact HB.out)⟩
      · replace c17 := Bool.eq_false_iff.mpr c17
        subst c17
        have H1 : (ideal_Sound.l0 kj3 a1 a2 l0_1 (l0_1.length : Int) 0) = some r := by rw [if_neg (show ¬ (false = true) by decide)] at H; exact H
        clear H
        have H := H1
        clear H1
        have H' := Aside0.mk H
        clear H
        have hcz18_0 : wc.cell? ⟨gb101, 0, none⟩ = some (.slice A0_0 l0_0.length c0_0) := (blk_cell BK101.out 0).trans rfl
        have hcz18_1 : wc.cell? ⟨gb101, 1, none⟩ = some (.slice A0_1 l0_1.length c0_1) := (blk_cell BK101.out 1).trans rfl
        have hfz18_0 := blk_frozen BK101.out 0
        have hfz18_1 := blk_frozen BK101.out 1
        go_wp2
        go_loopg [47] kj3 (fun kq v47 w' => ∃ (x47_2 : Int), v47 = .int .i64 x47_2 ∧ Aside0 (ideal_Sound.l0 kq a1 a2 l0_1 (l0_1.length : Int) x47_2 = some r) ∧ Aside0 (kq ≤ kj3) ∧ Aside0 (w'.heap[gb101]? = some (.cells #[(.slice A0_0 l0_0.length c0_0), (.slice A0_1 l0_1.length c0_1)] 25 (0, 0))) ∧ Aside0 (Below w.heap.size w w'))
        case atStart => exact ⟨(0), (by first | rfl | (simp; done) | (simp [*]; done)), H', ⟨Nat.le_refl _⟩, ⟨by (with_reducible repeat (first | refine blk_drewN ?_ _ | refine blk_drew ?_ | refine blk_alloc ?_ _)); exact BK101.out⟩, ⟨by repeat (first | (with_reducible first | exact HB.out | apply below_alloc | apply pw_below_drewN | apply below_drew1 | refine below_set ?_ GE101.out) | exact HB.out)⟩⟩
        case round =>
          clear H'
          try clear c1
          try clear p2
          try clear c6
          try clear c6b0
          try clear c7
          try clear c7b0
          try clear c8
          try clear c8b0
          try clear c9
          try clear c9b0
          try clear c10
          try clear c10b0
          try clear c10b1
          try clear c11
          try clear c11b0
          try clear c11b1
          try clear c17
          try clear hcz13_0
          try clear hcz13_1
          try clear hcz15_0
          try clear hcz15_1
          try clear hcz16_0
          try clear hcz16_1
          try clear hcz18_0
          try clear hcz18_1
          try clear hfz13_0
          try clear hfz13_1
          try clear hfz15_0
          try clear hfz15_1
          try clear hfz16_0
          try clear hfz16_1
          try clear hfz18_0
          try clear hfz18_1
          try clear p2
          obtain ⟨x47_2, rfl, HA, HK2, BK101, HB⟩ := hrel
          cases gk with
          | zero => exact absurd HA.out (by simp [ideal_Sound.l0])
          | succ k2 =>
            have H := HA.out
            clear HA
            simp only [ideal_Sound.l0] at H
            by_cases c19 : x47_2 < (l0_1.length : Int)
            · rw [if_pos c19] at H
              have c19b0 : decide (x47_2 < (l0_1.length : Int)) = true := decide_eq_true c19
              clear c19
              by_cases c20 : 0 ≤ x47_2
              · rw [if_pos c20] at H
                have c20b0 : decide (0 ≤ x47_2) = true := decide_eq_true c20
                clear c20
                by_cases c21 : x47_2 < (l0_1.length : Int)
                · rw [if_pos c21] at H
                  have c21b0 : decide (x47_2 < (l0_1.length : Int)) = true := decide_eq_true c21
                  clear c21
                  by_cases c22 : ((rd_L2 l0_1 x47_2).length : Int) = a1
                  · rw [if_pos c22] at H
                    have c22b0 : (((rd_L2 l0_1 x47_2).length : Int) == a1) = true := beq_iff_eq.mpr c22
                    have c22b1 : (((rd_L2 l0_1 x47_2).length : Int) != a1) = false := bne_eq_false_iff_eq.mpr c22
                    clear c22
                    obtain ⟨ji23, hji23⟩ : ∃ j_ : Int, (wrap64 (x47_2 + 1)) = j_ := ⟨_, rfl⟩
                    replace H : (if 0 ≤ (ji23) then (if (ji23) ≤ ((rd_L2 l0_1 x47_2).length : Int) then ((ideal_even.f ((rd_L2 l0_1 x47_2).take ((ji23) : Int).toNat) 0).bind fun t108 => (if t108 = true then ((ideal_even.f ((rd_L2 l0_1 x47_2).drop ((ji23) : Int).toNat) a2).bind fun t113 => (if t113 = true then (ideal_Sound.l0 k2 a1 a2 l0_1 (l0_1.length : Int) ji23) else (some false))) else (some false))) else (none)) else (none)) = some r := by first | (rw [hji23] at H; exact H) | (simp only [hji23] at H ⊢; exact H)
                    have hji23w : (IntKind.i64.wrap (x47_2 + 1)) = ji23 := (i64_w _).trans hji23
                    by_cases c24 : 0 ≤ (ji23)
                    · rw [if_pos c24] at H
                      have c24b0 := eq_true c24
                      have c24b1 : decide (0 ≤ (ji23)) = true := decide_eq_true c24
                      clear c24
                      by_cases c25 : (ji23) ≤ ((rd_L2 l0_1 x47_2).length : Int)
                      · rw [if_pos c25] at H
                        have c25b0 := eq_true c25
                        have c25b1 : decide ((ji23) ≤ ((rd_L2 l0_1 x47_2).length : Int)) = true := decide_eq_true c25
                        clear c25
                        obtain ⟨y104, hy104⟩ : ∃ y_ : List (List Int), y_ = ((rd_L2 l0_1 x47_2).take ((ji23) : Int).toNat) := ⟨_, rfl⟩
                        replace H : ((ideal_even.f y104 0).bind fun t108 => (if t108 = true then ((ideal_even.f ((rd_L2 l0_1 x47_2).drop ((ji23) : Int).toNat) a2).bind fun t113 => (if t113 = true then (ideal_Sound.l0 k2 a1 a2 l0_1 (l0_1.length : Int) ji23) else (some false))) else (some false))) = some r := by first | (rw [hy104]; with_reducible exact H) | (have H2_ := (Option.bind_some _ _).symm.trans H; rw [hy104]; with_reducible exact H2_) | (have H2_ := (Option.bind_some _ _).symm.trans H; with_reducible exact H2_) | with_reducible exact H | (rw [hy104]; exact H) | exact H
                        have Ny104 := Aside0.mk hy104
                        clear hy104
                        replace H := Option.bind_eq_some_iff.mp H
                        obtain ⟨t108, A260, H⟩ := H
                        replace H : (if t108 = true then ((ideal_even.f ((rd_L2 l0_1 x47_2).drop ((ji23) : Int).toNat) a2).bind fun t113 => (if t113 = true then (ideal_Sound.l0 k2 a1 a2 l0_1 (l0_1.length : Int) ji23) else (some false))) else (some false)) = some r := H
                        have A26 := Aside0.mk A260
                        clear A260
                        by_cases c27 : t108 = true
                        · subst c27
                          have H1 : ((ideal_even.f ((rd_L2 l0_1 x47_2).drop ((ji23) : Int).toNat) a2).bind fun t113 => (if t113 = true then (ideal_Sound.l0 k2 a1 a2 l0_1 (l0_1.length : Int) ji23) else (some false))) = some r := by rw [if_pos rfl] at H; exact H
                          clear H
                          have H := H1
                          clear H1
                          have c28b0 := eq_true (of_decide_eq_true (by first | (with_reducible assumption) | assumption) : 0 ≤ (ji23))
                          have c29b0 := eq_true (of_decide_eq_true (by first | (with_reducible assumption) | assumption) : (ji23) ≤ ((rd_L2 l0_1 x47_2).length : Int))
                          obtain ⟨y109, hy109⟩ : ∃ y_ : List (List Int), y_ = ((rd_L2 l0_1 x47_2).drop ((ji23) : Int).toNat) := ⟨_, rfl⟩
                          replace H : ((ideal_even.f y109 a2).bind fun t113 => (if t113 = true then (ideal_Sound.l0 k2 a1 a2 l0_1 (l0_1.length : Int) ji23) else (some false))) = some r := by first | (rw [hy109]; with_reducible exact H) | (have H2_ := (Option.bind_some _ _).symm.trans H; rw [hy109]; with_reducible exact H2_) | (have H2_ := (Option.bind_some _ _).symm.trans H; with_reducible exact H2_) | with_reducible exact H | (rw [hy109]; exact H) | exact H
                          have Ny109 := Aside0.mk hy109
                          clear hy109
                          replace H := Option.bind_eq_some_iff.mp H
                          obtain ⟨t113, A300, H⟩ := H
                          replace H : (if t113 = true then (ideal_Sound.l0 k2 a1 a2 l0_1 (l0_1.length : Int) ji23) else (some false)) = some r := H
                          have A30 := Aside0.mk A300
                          clear A300
                          by_cases c31 : t113 = true
                          · subst c31
                            have H1 : (ideal_Sound.l0 k2 a1 a2 l0_1 (l0_1.length : Int) ji23) = some r := by rw [if_pos rfl] at H; exact H
                            clear H
                            have H := H1
                            clear H1
                            have H' := Aside0.mk H
                            clear H
                            have p103 : 0 ≤ (x47_2 : Int) := of_decide_eq_true (by first | (with_reducible assumption) | assumption)
                            have q103 : x47_2 < (l0_1.length : Int) := of_decide_eq_true (by first | (with_reducible assumption) | assumption)
                            obtain ⟨ad103, A103_0, c103_0, e103, hx103_0, hl103_0, hi103_0⟩ := at_L2 HR0_1.out x47_2 p103 q103
                            cases e103
                            replace hx103_0 := (HB.out.cell (World.block_lt_of_cell? w _ hx103_0)).trans hx103_0
                            have HR103_0 := Aside0.mk hi103_0
                            have HC103_0 := Aside0.mk hl103_0
                            clear hi103_0 hl103_0
                            replace p103 := eq_true p103
                            replace q103 := eq_true q103
                            have q32 : ((ji23) : Int) ≤ (((rd_L2 l0_1 x47_2).length : Int) : Int) := of_decide_eq_true (by first | (with_reducible assumption) | assumption)
                            obtain ⟨i032, hi032, _, hsz32, _⟩ := info_parts info35
                            have hroom32 : (rd_L2 l0_1 x47_2).length ≤ c103_0 := HC103_0.out
                            have hC32 : Kd.C (Kd.slice 37 (Kd.int .u32)) _ A103_0 (rd_L2 l0_1 x47_2).length (rd_L2 l0_1 x47_2) := HR103_0.out
                            have hcut32 := cut_to (P := Tryd.prog) 22 35 .i64 Tryd.underlying22 hi032 A103_0 (rd_L2 l0_1 x47_2).length c103_0 (ji23) (of_decide_eq_true (by first | (with_reducible assumption) | assumption)) q32 hroom32
                            have hr32 := Kd.C_take (m := ((ji23) : Int).toNat) hC32 (by omega)
                            have hy32 : y104.length = ((ji23) : Int).toNat := (by rw [Ny104.out, List.length_take]; omega)
                            rw [← Ny104.out] at hr32
                            rw [← hy32] at hcut32
                            have HR107 := Aside0.mk hr32
                            have HC107 := Aside0.mk (show y104.length ≤ c103_0 from by omega)
                            clear hr32 hC32 hroom32 hi032 hsz32
                            have KY32 := Aside0.mk hy32
                            clear hy32
                            replace q32 := eq_true q32
                            go_wp2_with (first | (go_at_call 20; (with_reducible refine (ideal_even.calls _ _ y104 0 true _ ?side1 ?side2 A26.out).mono ?_); (case side1 => repeat (first | exact (Kd.C_below HR107.out HB.out) | (with_reducible refine Kd.C_alloc ?_ _) | (with_reducible refine Kd.C_drewN ?_ _) | (with_reducible refine Kd.C_drew ?_))); (case side2 => exact HC107.out); rintro e w33 ⟨rfl, hb⟩; have n0_ := ideal_Sound.keepB BK101 hb; have n1_ := Aside0.mk (below_step (by repeat (first | (with_reducible first | exact HB.out | apply below_alloc | apply pw_below_drewN | apply below_drew1 | refine below_set ?_ GE101.out) | exact HB.out)) hb); clear BK101; clear HB; have BK101 := n0_; have HB := n1_; clear n0_ n1_; (try clear hb); (try clear hb2); (try clear hk); (try clear hi); have q34 : ((ji23) : Int) ≤ (((rd_L2 l0_1 x47_2).length : Int) : Int) := of_decide_eq_true (by first | (with_reducible assumption) | assumption); obtain ⟨i034, hi034, _, hsz34, _⟩ := info_parts info35; have hroom34 : (rd_L2 l0_1 x47_2).length ≤ c103_0 := HC103_0.out; have hC34 : Kd.C (Kd.slice 37 (Kd.int .u32)) _ A103_0 (rd_L2 l0_1 x47_2).length (rd_L2 l0_1 x47_2) := HR103_0.out; have q034 : (0 : Int) ≤ ((ji23) : Int) := of_decide_eq_true (by first | (with_reducible assumption) | assumption); have hcut34 := cut_from (P := Tryd.prog) 22 35 .i64 Tryd.underlying22 hi034 1 hsz34 A103_0 (rd_L2 l0_1 x47_2).length c103_0 (ji23) q034 q34; have hr34 := Kd.C_drop (m := ((ji23) : Int).toNat) (c := c103_0) hC34 (by omega) hroom34; obtain ⟨A34, hA34⟩ : ∃ A1, A1 = (if c103_0 = ((ji23) : Int).toNat then A103_0 else (A103_0 : Option Addr).map (·.add (((ji23) : Int).toNat * 1))) := ⟨_, rfl⟩; obtain ⟨c34, hc34⟩ : ∃ c1, c1 = c103_0 - ((ji23) : Int).toNat := ⟨_, rfl⟩; have hy34 : y109.length = (rd_L2 l0_1 x47_2).length - ((ji23) : Int).toNat := (by rw [Ny109.out, List.length_drop] <;> omega); rw [show (rd_L2 l0_1 x47_2).drop ((ji23) : Int).toNat = y109 from Ny109.out.symm] at hr34; replace hr34 : Kd.C (Kd.slice 37 (Kd.int .u32)) _ A34 y109.length y109 := (by rw [hA34]; exact hr34); rw [← hy34, ← hA34, ← hc34] at hcut34; have HR112 := Aside0.mk hr34; have HC112 := Aside0.mk (show y109.length ≤ c34 from by rw [hy34, hc34]; exact Nat.sub_le_sub_right hroom34 _); clear hr34 hC34 hroom34 hi034 hsz34 hc34; have KY34 := Aside0.mk hy34; have KA34 := Aside0.mk hA34; clear hy34 hA34; replace q34 := eq_true q34) | (go_at_call 20; (with_reducible refine (ideal_even.calls _ _ y109 a2 true _ ?side1 ?side2 A30.out).mono ?_); (case side1 => repeat (first | exact (Kd.C_below HR112.out HB.out) | (with_reducible refine Kd.C_alloc ?_ _) | (with_reducible refine Kd.C_drewN ?_ _) | (with_reducible refine Kd.C_drew ?_))); (case side2 => exact HC112.out); rintro e w35 ⟨rfl, hb⟩; have n0_ := ideal_Sound.keepB BK101 hb; have n1_ := Aside0.mk (below_step (by repeat (first | (with_reducible first | exact HB.out | apply below_alloc | apply pw_below_drewN | apply below_drew1 | refine below_set ?_ GE101.out) | exact HB.out)) hb); clear BK101; clear HB; have BK101 := n0_; have HB := n1_; clear n0_ n1_; (try clear hb); (try clear hb2); (try clear hk); (try clear hi)))
                            go_roundg k2
                            case measure => have := HJ3.out; have := HK2.out; omega
                            case rel => exact ⟨(ji23), (by first | rfl | (simp; done) | (simp only [← hji23] <;> (first | rfl | simp)) | (simp [*]; done)), H', ⟨by have := HJ3.out; have := HK2.out; omega⟩, ⟨by (with_reducible repeat (first | refine blk_drewN ?_ _ | refine blk_drew ?_ | refine blk_alloc ?_ _)); exact BK101.out⟩, ⟨by repeat (first | (with_reducible first | exact HB.out | apply below_alloc | apply pw_below_drewN | apply below_drew1 | refine below_set ?_ GE101.out) | exact HB.out)⟩⟩
                          · replace c31 := Bool.eq_false_iff.mpr c31
                            subst c31
                            have H1 : (some false) = some r := by rw [if_neg (show ¬ (false = true) by decide)] at H; exact H
                            clear H
                            have H := H1
                            clear H1
                            obtain rfl := Option.some.inj H
                            have p103 : 0 ≤ (x47_2 : Int) := of_decide_eq_true (by first | (with_reducible assumption) | assumption)
                            have q103 : x47_2 < (l0_1.length : Int) := of_decide_eq_true (by first | (with_reducible assumption) | assumption)
                            obtain ⟨ad103, A103_0, c103_0, e103, hx103_0, hl103_0, hi103_0⟩ := at_L2 HR0_1.out x47_2 p103 q103
                            cases e103
                            replace hx103_0 := (HB.out.cell (World.block_lt_of_cell? w _ hx103_0)).trans hx103_0
                            have HR103_0 := Aside0.mk hi103_0
                            have HC103_0 := Aside0.mk hl103_0
                            clear hi103_0 hl103_0
                            replace p103 := eq_true p103
                            replace q103 := eq_true q103
                            have q36 : ((ji23) : Int) ≤ (((rd_L2 l0_1 x47_2).length : Int) : Int) := of_decide_eq_true (by first | (with_reducible assumption) | assumption)
                            obtain ⟨i036, hi036, _, hsz36, _⟩ := info_parts info35
                            have hroom36 : (rd_L2 l0_1 x47_2).length ≤ c103_0 := HC103_0.out
                            have hC36 : Kd.C (Kd.slice 37 (Kd.int .u32)) _ A103_0 (rd_L2 l0_1 x47_2).length (rd_L2 l0_1 x47_2) := HR103_0.out
                            have hcut36 := cut_to (P := Tryd.prog) 22 35 .i64 Tryd.underlying22 hi036 A103_0 (rd_L2 l0_1 x47_2).length c103_0 (ji23) (of_decide_eq_true (by first | (with_reducible assumption) | assumption)) q36 hroom36
                            have hr36 := Kd.C_take (m := ((ji23) : Int).toNat) hC36 (by omega)
                            have hy36 : y104.length = ((ji23) : Int).toNat := (by rw [Ny104.out, List.length_take]; omega)
                            rw [← Ny104.out] at hr36
                            rw [← hy36] at hcut36
                            have HR107 := Aside0.mk hr36
                            have HC107 := Aside0.mk (show y104.length ≤ c103_0 from by omega)
                            clear hr36 hC36 hroom36 hi036 hsz36
                            have KY36 := Aside0.mk hy36
                            clear hy36
                            replace q36 := eq_true q36
                            go_wp2_with (first | (go_at_call 20; (with_reducible refine (ideal_even.calls _ _ y104 0 true _ ?side1 ?side2 A26.out).mono ?_); (case side1 => repeat (first | exact (Kd.C_below HR107.out HB.out) | (with_reducible refine Kd.C_alloc ?_ _) | (with_reducible refine Kd.C_drewN ?_ _) | (with_reducible refine Kd.C_drew ?_))); (case side2 => exact HC107.out); rintro e w37 ⟨rfl, hb⟩; have n0_ := ideal_Sound.keepB BK101 hb; have n1_ := Aside0.mk (below_step (by repeat (first | (with_reducible first | exact HB.out | apply below_alloc | apply pw_below_drewN | apply below_drew1 | refine below_set ?_ GE101.out) | exact HB.out)) hb); clear BK101; clear HB; have BK101 := n0_; have HB := n1_; clear n0_ n1_; (try clear hb); (try clear hb2); (try clear hk); (try clear hi); have q38 : ((ji23) : Int) ≤ (((rd_L2 l0_1 x47_2).length : Int) : Int) := of_decide_eq_true (by first | (with_reducible assumption) | assumption); obtain ⟨i038, hi038, _, hsz38, _⟩ := info_parts info35; have hroom38 : (rd_L2 l0_1 x47_2).length ≤ c103_0 := HC103_0.out; have hC38 : Kd.C (Kd.slice 37 (Kd.int .u32)) _ A103_0 (rd_L2 l0_1 x47_2).length (rd_L2 l0_1 x47_2) := HR103_0.out; have q038 : (0 : Int) ≤ ((ji23) : Int) := of_decide_eq_true (by first | (with_reducible assumption) | assumption); have hcut38 := cut_from (P := Tryd.prog) 22 35 .i64 Tryd.underlying22 hi038 1 hsz38 A103_0 (rd_L2 l0_1 x47_2).length c103_0 (ji23) q038 q38; have hr38 := Kd.C_drop (m := ((ji23) : Int).toNat) (c := c103_0) hC38 (by omega) hroom38; obtain ⟨A38, hA38⟩ : ∃ A1, A1 = (if c103_0 = ((ji23) : Int).toNat then A103_0 else (A103_0 : Option Addr).map (·.add (((ji23) : Int).toNat * 1))) := ⟨_, rfl⟩; obtain ⟨c38, hc38⟩ : ∃ c1, c1 = c103_0 - ((ji23) : Int).toNat := ⟨_, rfl⟩; have hy38 : y109.length = (rd_L2 l0_1 x47_2).length - ((ji23) : Int).toNat := (by rw [Ny109.out, List.length_drop] <;> omega); rw [show (rd_L2 l0_1 x47_2).drop ((ji23) : Int).toNat = y109 from Ny109.out.symm] at hr38; replace hr38 : Kd.C (Kd.slice 37 (Kd.int .u32)) _ A38 y109.length y109 := (by rw [hA38]; exact hr38); rw [← hy38, ← hA38, ← hc38] at hcut38; have HR112 := Aside0.mk hr38; have HC112 := Aside0.mk (show y109.length ≤ c38 from by rw [hy38, hc38]; exact Nat.sub_le_sub_right hroom38 _); clear hr38 hC38 hroom38 hi038 hsz38 hc38; have KY38 := Aside0.mk hy38; have KA38 := Aside0.mk hA38; clear hy38 hA38; replace q38 := eq_true q38) | (go_at_call 20; (with_reducible refine (ideal_even.calls _ _ y109 a2 false _ ?side1 ?side2 A30.out).mono ?_); (case side1 => repeat (first | exact (Kd.C_below HR112.out HB.out) | (with_reducible refine Kd.C_alloc ?_ _) | (with_reducible refine Kd.C_drewN ?_ _) | (with_reducible refine Kd.C_drew ?_))); (case side2 => exact HC112.out); rintro e w39 ⟨rfl, hb⟩; have n0_ := ideal_Sound.keepB BK101 hb; have n1_ := Aside0.mk (below_step (by repeat (first | (with_reducible first | exact HB.out | apply below_alloc | apply pw_below_drewN | apply below_drew1 | refine below_set ?_ GE101.out) | exact HB.out)) hb); clear BK101; clear HB; have BK101 := n0_; have HB := n1_; clear n0_ n1_; (try clear hb); (try clear hb2); (try clear hk); (try clear hi)))
                            go_ret
                            exact ⟨by first | rfl | (simp [errW_none, errW_some] <;> rfl) | (simp only [← hji23]; first | rfl | (simp [errW_none, errW_some] <;> rfl)) | (simp [*, errW_none, errW_some] <;> rfl), by repeat (first | (with_reducible first | exact HB.out | apply below_alloc | apply pw_below_drewN | apply below_drew1 | refine below_set ?_ GE101.out) | exact HB.out)⟩
                        · replace c27 := Bool.eq_false_iff.mpr c27
                          subst c27
                          have H1 : (some false) = some r := by rw [if_neg (show ¬ (false = true) by decide)] at H; exact H
                          clear H
                          have H := H1
                          clear H1
                          obtain rfl := Option.some.inj H
                          have p103 : 0 ≤ (x47_2 : Int) := of_decide_eq_true (by first | (with_reducible assumption) | assumption)
                          have q103 : x47_2 < (l0_1.length : Int) := of_decide_eq_true (by first | (with_reducible assumption) | assumption)
                          obtain ⟨ad103, A103_0, c103_0, e103, hx103_0, hl103_0, hi103_0⟩ := at_L2 HR0_1.out x47_2 p103 q103
                          cases e103
                          replace hx103_0 := (HB.out.cell (World.block_lt_of_cell? w _ hx103_0)).trans hx103_0
                          have HR103_0 := Aside0.mk hi103_0
                          have HC103_0 := Aside0.mk hl103_0
                          clear hi103_0 hl103_0
                          replace p103 := eq_true p103
                          replace q103 := eq_true q103
                          have q40 : ((ji23) : Int) ≤ (((rd_L2 l0_1 x47_2).length : Int) : Int) := of_decide_eq_true (by first | (with_reducible assumption) | assumption)
                          obtain ⟨i040, hi040, _, hsz40, _⟩ := info_parts info35
                          have hroom40 : (rd_L2 l0_1 x47_2).length ≤ c103_0 := HC103_0.out
                          have hC40 : Kd.C (Kd.slice 37 (Kd.int .u32)) _ A103_0 (rd_L2 l0_1 x47_2).length (rd_L2 l0_1 x47_2) := HR103_0.out
                          have hcut40 := cut_to (P := Tryd.prog) 22 35 .i64 Tryd.underlying22 hi040 A103_0 (rd_L2 l0_1 x47_2).length c103_0 (ji23) (of_decide_eq_true (by first | (with_reducible assumption) | assumption)) q40 hroom40
                          have hr40 := Kd.C_take (m := ((ji23) : Int).toNat) hC40 (by omega)
                          have hy40 : y104.length = ((ji23) : Int).toNat := (by rw [Ny104.out, List.length_take]; omega)
                          rw [← Ny104.out] at hr40
                          rw [← hy40] at hcut40
                          have HR107 := Aside0.mk hr40
                          have HC107 := Aside0.mk (show y104.length ≤ c103_0 from by omega)
                          clear hr40 hC40 hroom40 hi040 hsz40
                          have KY40 := Aside0.mk hy40
                          clear hy40
                          replace q40 := eq_true q40
                          go_wp2_with (first | (go_at_call 20; (with_reducible refine (ideal_even.calls _ _ y104 0 false _ ?side1 ?side2 A26.out).mono ?_); (case side1 => repeat (first | exact (Kd.C_below HR107.out HB.out) | (with_reducible refine Kd.C_alloc ?_ _) | (with_reducible refine Kd.C_drewN ?_ _) | (with_reducible refine Kd.C_drew ?_))); (case side2 => exact HC107.out); rintro e w41 ⟨rfl, hb⟩; have n0_ := ideal_Sound.keepB BK101 hb; have n1_ := Aside0.mk (below_step (by repeat (first | (with_reducible first | exact HB.out | apply below_alloc | apply pw_below_drewN | apply below_drew1 | refine below_set ?_ GE101.out) | exact HB.out)) hb); clear BK101; clear HB; have BK101 := n0_; have HB := n1_; clear n0_ n1_; (try clear hb); (try clear hb2); (try clear hk); (try clear hi)))
                          go_ret
                          exact ⟨by first | rfl | (simp [errW_none, errW_some] <;> rfl) | (simp only [← hji23]; first | rfl | (simp [errW_none, errW_some] <;> rfl)) | (simp [*, errW_none, errW_some] <;> rfl), by repeat (first | (with_reducible first | exact HB.out | apply below_alloc | apply pw_below_drewN | apply below_drew1 | refine below_set ?_ GE101.out) | exact HB.out)⟩
                      · rw [if_neg c25] at H
                        exact absurd H (by simp)
                    · rw [if_neg c24] at H
                      exact absurd H (by simp)
                  · rw [if_neg c22] at H
                    have c22b0 : (((rd_L2 l0_1 x47_2).length : Int) == a1) = false := beq_eq_false_iff_ne.mpr c22
                    have c22b1 : (((rd_L2 l0_1 x47_2).length : Int) != a1) = true := bne_iff_ne.mpr c22
                    obtain rfl := Option.some.inj H
                    have p103 : 0 ≤ (x47_2 : Int) := of_decide_eq_true (by first | (with_reducible assumption) | assumption)
                    have q103 : x47_2 < (l0_1.length : Int) := of_decide_eq_true (by first | (with_reducible assumption) | assumption)
                    obtain ⟨ad103, A103_0, c103_0, e103, hx103_0, hl103_0, hi103_0⟩ := at_L2 HR0_1.out x47_2 p103 q103
                    cases e103
                    replace hx103_0 := (HB.out.cell (World.block_lt_of_cell? w _ hx103_0)).trans hx103_0
                    have HR103_0 := Aside0.mk hi103_0
                    have HC103_0 := Aside0.mk hl103_0
                    clear hi103_0 hl103_0
                    replace p103 := eq_true p103
                    replace q103 := eq_true q103
                    go_wp2
                    go_ret
                    exact ⟨by first | rfl | (simp [errW_none, errW_some] <;> rfl) | (simp [*, errW_none, errW_some] <;> rfl), by repeat (first | (with_reducible first | exact HB.out | apply below_alloc | apply pw_below_drewN | apply below_drew1 | refine below_set ?_ GE101.out) | exact HB.out)⟩
                · rw [if_neg c21] at H
                  exact absurd H (by simp)
              · rw [if_neg c20] at H
                exact absurd H (by simp)
            · rw [if_neg c19] at H
              have c19b0 : decide (x47_2 < (l0_1.length : Int)) = false := decide_eq_false c19
              clear c19
              obtain rfl := Option.some.inj H
              go_wp2
              go_ret
              exact ⟨by first | rfl | (simp [errW_none, errW_some] <;> rfl) | (simp [*, errW_none, errW_some] <;> rfl), by repeat (first | (with_reducible first | exact HB.out | apply below_alloc | apply pw_below_drewN | apply below_drew1 | refine below_set ?_ GE101.out) | exact HB.out)⟩

/-! ### crowd_Within: function 35 -/
def crowd_Within.f (a0 : Int) (a1 : Int) : Option (Bool) := some ((Go.bits .andNot .u64 a0 a1) == 0)
set_option maxHeartbeats 8000000 in
set_option maxRecDepth 100000 in
theorem crowd_Within.calls (a0 : Int) (a1 : Int) (r : Bool) (w : World) (h : crowd_Within.f a0 a1 = some r) :
    Calls Tryd.prog 35 #[.int .u64 a0, .int .u64 a1] w fun e w' => e = .returned (.bool r) ∧ Drawn0 w w' := by
  have H : (some ((Go.bits .andNot .u64 a0 a1) == 0)) = some r := h
  clear h
  obtain rfl := Option.some.inj H
  go_enter Tryd.func35, Tryd.ntmps35
  go_wp2
  go_ret
  exact ⟨by first | rfl | (simp; done) | (simp [*]; done), by repeat (first | exact Drawn0.refl _ | apply Drawn0.step)⟩

/-! ### crowd_bit: function 47 -/
def crowd_bit.f (a0 : Int) : Option (Int) := if 0 ≤ (wrap64 (a0 - 1)) then (some (shl .u64 1 (wrap64 (a0 - 1)))) else (none)
set_option maxHeartbeats 8000000 in
set_option maxRecDepth 100000 in
theorem crowd_bit.calls (a0 : Int) (r : Int) (w : World) (h : crowd_bit.f a0 = some r) :
    Calls Tryd.prog 47 #[.int .i64 a0] w fun e w' => e = .returned (.int .u64 r) ∧ Drawn0 w w' := by
  have H : (if 0 ≤ (wrap64 (a0 - 1)) then (some (shl .u64 1 (wrap64 (a0 - 1)))) else (none)) = some r := h
  clear h
  obtain ⟨ji2, hji2⟩ : ∃ j_ : Int, (wrap64 (a0 - 1)) = j_ := ⟨_, rfl⟩
  replace H : (if 0 ≤ (ji2) then (some (shl .u64 1 (ji2))) else (none)) = some r := by first | (rw [hji2] at H; exact H) | (simp only [hji2] at H ⊢; exact H)
  have hji2w : (IntKind.i64.wrap (a0 - 1)) = ji2 := (i64_w _).trans hji2
  by_cases c3 : 0 ≤ (ji2)
  · rw [if_pos c3] at H
    have c3b0 := eq_true c3
    have c3b1 : decide (0 ≤ (ji2)) = true := decide_eq_true c3
    clear c3
    obtain ⟨ji4, hji4⟩ : ∃ j_ : Int, (shl .u64 1 (ji2)) = j_ := ⟨_, rfl⟩
    replace H : (some ji4) = some r := by first | (rw [hji4] at H; exact H) | (simp only [hji4] at H ⊢; exact H)
    have hji4_ : (IntKind.u64.wrap (1 * 2 ^ min (ji2).toNat 64)) = ji4 := hji4
    have hji4z : (ji2) ≤ 64 → (IntKind.u64.wrap (1 * 2 ^ (ji2).toNat)) = ji4 := shl_small hji4
    have hji4u : (IntKind.u64.wrap (2 ^ min (ji2).toNat 64)) = ji4 := by have h_ := hji4_; rw [Int.one_mul] at h_; exact h_
    have hji4v : (ji2) ≤ 64 → (IntKind.u64.wrap (2 ^ (ji2).toNat)) = ji4 := fun hle_ => by have h_ := hji4z hle_; rw [Int.one_mul] at h_; exact h_
    obtain rfl := Option.some.inj H
    go_enter Tryd.func47, Tryd.ntmps47
    go_wp2
    go_ret
    exact ⟨by first | rfl | (simp; done) | (simp only [← hji2, ← hji4] <;> (first | rfl | simp)) | (simp [*]; done), by repeat (first | exact Drawn0.refl _ | apply Drawn0.step)⟩
  · rw [if_neg c3] at H
    exact absurd H (by simp)

/-! ### crowd_All: function 36 -/
def crowd_All.f (a0 : Int) : Option (Int) := (crowd_bit.f ((mn (mx a0 0) 64) + 1)).bind fun t114 => (some (IntKind.u64.wrap (t114 - 1)))
set_option maxHeartbeats 8000000 in
set_option maxRecDepth 100000 in
theorem crowd_All.calls (a0 : Int) (r : Int) (w : World) (h : crowd_All.f a0 = some r) :
    Calls Tryd.prog 36 #[.int .i64 a0] w fun e w' => e = .returned (.int .u64 r) ∧ Below w.heap.size w w' := by
  have HB := Aside0.mk (Below.refl w.heap.size w)
  have H : ((crowd_bit.f ((mn (mx a0 0) 64) + 1)).bind fun t114 => (some (IntKind.u64.wrap (t114 - 1)))) = some r := h
  clear h
  obtain ⟨ji2, hji2⟩ : ∃ j_ : Int, (mx a0 0) = j_ := ⟨_, rfl⟩
  replace H : ((crowd_bit.f ((mn (ji2) 64) + 1)).bind fun t114 => (some (IntKind.u64.wrap (t114 - 1)))) = some r := by first | (rw [hji2] at H; exact H) | (simp only [hji2] at H ⊢; exact H)
  (try (have hji2l : 0 ≤ ji2 := by (rw [← hji2]; unfold mx; (repeat' split) <;> omega)))
  (try (have hji2m : 0 ≤ ji2 := by omega))
  have hji2_ : (if a0 < 0 then 0 else a0) = ji2 := hji2
  obtain ⟨ji3, hji3⟩ : ∃ j_ : Int, (mn (ji2) 64) = j_ := ⟨_, rfl⟩
  replace H : ((crowd_bit.f ((ji3) + 1)).bind fun t114 => (some (IntKind.u64.wrap (t114 - 1)))) = some r := by first | (rw [hji3] at H; exact H) | (simp only [hji3] at H ⊢; exact H)
  have hji3_ : (if 64 < (ji2) then 64 else (ji2)) = ji3 := hji3
  replace H := Option.bind_eq_some_iff.mp H
  obtain ⟨t114, A40, H⟩ := H
  replace H : (some (IntKind.u64.wrap (t114 - 1))) = some r := H
  have A4 := Aside0.mk A40
  clear A40
  obtain rfl := Option.some.inj H
  go_enter Tryd.func36, Tryd.ntmps36
  go_wp2_with (first | ((with_reducible refine gate_callee (f := 47) rfl ?_); refine goesL_ (some 7) rfl rfl Tryd.func47 (by kernel_rfl) rfl #[.int .i64 ((ji3) + 1)] rfl (by (try simp only [List.map_toArray, List.map_cons, List.map_nil]); first | done | (simp only [hji3]; rfl) | rfl | (simp only [List.length_drop, List.length_take]; rfl)) ?_; (with_reducible refine (crowd_bit.calls ((ji3) + 1) t114 _ A4.out).mono ?_); rintro e w' ⟨rfl, ⟨nd, rfl⟩⟩; refine ⟨_, rfl, ?_⟩))
  go_ret
  exact ⟨by first | rfl | (simp [errW_none, errW_some] <;> rfl) | (simp only [← hji2, ← hji3]; first | rfl | (simp [errW_none, errW_some] <;> rfl)) | (simp [*, errW_none, errW_some] <;> rfl), by repeat (first | (with_reducible first | exact HB.out | apply below_alloc | apply pw_below_drewN | apply below_drew1) | exact HB.out)⟩

-- NOT PRINTED: function 21 (ideal_scene_check)

/-! ### crowd_set_has: function 37 -/
def crowd_set_has.f (a0 : Int) (a1 : Int) : Option (Bool) := if a1 ≥ 1 then (if a1 ≤ 64 then ((crowd_bit.f a1).bind fun t122 => (some ((Go.bits .and .u64 a0 t122) != 0))) else (some false)) else (some false)
set_option maxHeartbeats 8000000 in
set_option maxRecDepth 100000 in
theorem crowd_set_has.calls (a0 : Int) (a1 : Int) (r : Bool) (w : World) (h : crowd_set_has.f a0 a1 = some r) :
    Calls Tryd.prog 37 #[.int .u64 a0, .int .i64 a1] w fun e w' => e = .returned (.bool r) ∧ Drawn0 w w' := by
  have H : (if a1 ≥ 1 then (if a1 ≤ 64 then ((crowd_bit.f a1).bind fun t122 => (some ((Go.bits .and .u64 a0 t122) != 0))) else (some false)) else (some false)) = some r := h
  clear h
  by_cases c3 : a1 ≥ 1
  · rw [if_pos c3] at H
    have c3b0 : decide (1 ≤ a1) = true := decide_eq_true c3
    clear c3
    by_cases c4 : a1 ≤ 64
    · rw [if_pos c4] at H
      have c4b0 : decide (a1 ≤ 64) = true := decide_eq_true c4
      clear c4
      replace H := Option.bind_eq_some_iff.mp H
      obtain ⟨t122, A50, H⟩ := H
      replace H : (some ((Go.bits .and .u64 a0 t122) != 0)) = some r := H
      have A5 := Aside0.mk A50
      clear A50
      obtain rfl := Option.some.inj H
      go_enter Tryd.func37, Tryd.ntmps37
      go_wp2_with (first | (go_at_call 47; (with_reducible refine (crowd_bit.calls a1 t122 _ A5.out).mono ?_); rintro e w' ⟨rfl, ⟨nd, rfl⟩⟩))
      go_ret
      exact ⟨by first | rfl | (simp; done) | (simp [*]; done), by repeat (first | exact Drawn0.refl _ | apply Drawn0.step)⟩
    · rw [if_neg c4] at H
      have c4b0 : decide (a1 ≤ 64) = false := decide_eq_false c4
      clear c4
      obtain rfl := Option.some.inj H
      go_enter Tryd.func37, Tryd.ntmps37
      go_wp2
      go_ret
      exact ⟨by first | rfl | (simp; done) | (simp [*]; done), by repeat (first | exact Drawn0.refl _ | apply Drawn0.step)⟩
  · rw [if_neg c3] at H
    have c3b0 : decide (1 ≤ a1) = false := decide_eq_false c3
    clear c3
    obtain rfl := Option.some.inj H
    go_enter Tryd.func37, Tryd.ntmps37
    go_wp2
    go_ret
    exact ⟨by first | rfl | (simp; done) | (simp [*]; done), by repeat (first | exact Drawn0.refl _ | apply Drawn0.step)⟩

/-! ### crowd_Has: function 22 -/
def crowd_Has.f (a0 : Int) (a1 : Int) : Option (Bool) := (crowd_set_has.f a0 a1).bind fun t123 => (some t123)
set_option maxHeartbeats 8000000 in
set_option maxRecDepth 100000 in
theorem crowd_Has.calls (a0 : Int) (a1 : Int) (r : Bool) (w : World) (h : crowd_Has.f a0 a1 = some r) :
    Calls Tryd.prog 22 #[.int .u64 a0, .int .i64 a1] w fun e w' => e = .returned (.bool r) ∧ Drawn0 w w' := by
  have H : ((crowd_set_has.f a0 a1).bind fun t123 => (some t123)) = some r := h
  clear h
  replace H := Option.bind_eq_some_iff.mp H
  obtain ⟨t123, A30, H⟩ := H
  replace H : (some t123) = some r := H
  have A3 := Aside0.mk A30
  clear A30
  obtain rfl := Option.some.inj H
  go_enter Tryd.func22, Tryd.ntmps22
  go_wp2_with (first | ((with_reducible refine gate_callee (f := 37) rfl ?_); refine goesL_ (some 7) rfl rfl Tryd.func37 (by kernel_rfl) rfl #[.int .u64 a0, .int .i64 a1] rfl (by (try simp only [List.map_toArray, List.map_cons, List.map_nil]); first | done | rfl | (simp only [List.length_drop, List.length_take]; rfl)) ?_; (with_reducible refine (crowd_set_has.calls a0 a1 t123 _ A3.out).mono ?_); rintro e w' ⟨rfl, ⟨nd, rfl⟩⟩; refine ⟨_, rfl, ?_⟩))
  go_ret
  exact ⟨by first | rfl | (simp; done) | (simp [*]; done), by repeat (first | exact Drawn0.refl _ | apply Drawn0.step)⟩

end Go.Proofs.YtpicmnkkkgedeaaDoor.PAll
