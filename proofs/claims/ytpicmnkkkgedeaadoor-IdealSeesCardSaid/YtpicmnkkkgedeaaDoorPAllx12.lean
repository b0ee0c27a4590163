/- The Go functions that the laws reach, as Lean functions, and that each call comes to what its function says. Written by a program of this session (a turned copy of the kit's print). No condition beyond those that each theorem states. -/
import Derived.Test.YtpicmnkkkgedeaaDoorPAllx0
namespace Go.Proofs.YtpicmnkkkgedeaaDoor.PAll
open Go.RowKit Go.Proofs.YtpicmnkkkgedeaaDoorW.PrintWords Go.Proofs.YtpicmnkkkgedeaaDoorW.PrintLast Go.Proofs.YtpicmnkkkgedeaaDoorW.PrintMore
attribute [local go_sem] max2_int min2_int max_two min_two max_three min_three max_four min_four   -- for this text's walks alone
set_option linter.unusedVariables false
set_option linter.unusedSimpArgs false

/-! ### offertorylaw25_sound: function 11 -/
mutual
def offertorylaw25_sound.j0 : Nat → Int → Int → Bool → List (List Int) → List (List (List Int)) → Option (Bool)
  | 0, _, _, _, _, _ => none
  | k + 1, x1, x2, x36, x187000, x187001 => if x36 = true then (some false) else (offertorylaw25_sound.l0 k x1 x2 0 x187000 x187001)
def offertorylaw25_sound.l0 : Nat → Int → Int → Int → List (List Int) → List (List (List Int)) → Option (Bool)
  | 0, _, _, _, _, _ => none
  | k + 1, x1, x2, x7, x187000, x187001 => if x7 < x1 then (if 0 ≤ x7 then (if x7 < (x187000.length : Int) then (if ((rd_L1 x187000 x7).length : Int) = x2 then (if x7 < (x187001.length : Int) then (offertorylaw25_sound.j2 k x1 x2 x7 (((rd_L2 x187001 x7).length : Int) != x1) x187000 x187001) else (none)) else (offertorylaw25_sound.j2 k x1 x2 x7 true x187000 x187001)) else (none)) else (none)) else (some true)
def offertorylaw25_sound.j2 : Nat → Int → Int → Int → Bool → List (List Int) → List (List (List Int)) → Option (Bool)
  | 0, _, _, _, _, _, _ => none
  | k + 1, x1, x2, x7, x59, x187000, x187001 => if x59 = true then (some false) else (offertorylaw25_sound.l1 k x1 x2 x7 0 x187000 x187001)
def offertorylaw25_sound.l1 : Nat → Int → Int → Int → Int → List (List Int) → List (List (List Int)) → Option (Bool)
  | 0, _, _, _, _, _, _ => none
  | k + 1, x1, x2, x7, x8, x187000, x187001 => if x8 < x1 then (if x8 ≤ x7 then (if 0 ≤ x7 then (if x7 < (x187001.length : Int) then (if 0 ≤ x8 then (if x8 < ((rd_L2 x187001 x7).length : Int) then (if ((rd_L1 (rd_L2 x187001 x7) x8).length : Int) = 0 then (if x8 > x7 then (if ((rd_L1 (rd_L2 x187001 x7) x8).length : Int) = x2 then (offertorylaw25_sound.l1 k x1 x2 x7 (wrap64 (x8 + 1)) x187000 x187001) else (some false)) else (offertorylaw25_sound.l1 k x1 x2 x7 (wrap64 (x8 + 1)) x187000 x187001)) else (some false)) else (none)) else (none)) else (none)) else (none)) else (if x8 > x7 then (if 0 ≤ x7 then (if x7 < (x187001.length : Int) then (if 0 ≤ x8 then (if x8 < ((rd_L2 x187001 x7).length : Int) then (if ((rd_L1 (rd_L2 x187001 x7) x8).length : Int) = x2 then (offertorylaw25_sound.l1 k x1 x2 x7 (wrap64 (x8 + 1)) x187000 x187001) else (some false)) else (none)) else (none)) else (none)) else (none)) else (offertorylaw25_sound.l1 k x1 x2 x7 (wrap64 (x8 + 1)) x187000 x187001))) else (offertorylaw25_sound.l0 k x1 x2 (wrap64 (x7 + 1)) x187000 x187001)
end
def offertorylaw25_sound.f (k : Nat) (l0_0 : List (List Int)) (l0_1 : List (List (List Int))) (a1 : Int) (a2 : Int) : Option (Bool) := if a1 < 1 then (offertorylaw25_sound.j0 k a1 a2 true l0_0 l0_1) else (if a1 > 64 then (offertorylaw25_sound.j0 k a1 a2 true l0_0 l0_1) else (if a2 < 0 then (offertorylaw25_sound.j0 k a1 a2 true l0_0 l0_1) else (if a2 > 256 then (offertorylaw25_sound.j0 k a1 a2 true l0_0 l0_1) else (if (l0_0.length : Int) = a1 then (offertorylaw25_sound.j0 k a1 a2 ((l0_1.length : Int) != a1) l0_0 l0_1) else (offertorylaw25_sound.j0 k a1 a2 true l0_0 l0_1)))))
theorem offertorylaw25_sound.mono_l : ∀ k, (∀ y0 y1 y2 y3 y4, LeO (offertorylaw25_sound.j0 k y0 y1 y2 y3 y4) (offertorylaw25_sound.j0 (k + 1) y0 y1 y2 y3 y4)) ∧ (∀ y0 y1 y2 y3 y4, LeO (offertorylaw25_sound.l0 k y0 y1 y2 y3 y4) (offertorylaw25_sound.l0 (k + 1) y0 y1 y2 y3 y4)) ∧ (∀ y0 y1 y2 y3 y4 y5, LeO (offertorylaw25_sound.j2 k y0 y1 y2 y3 y4 y5) (offertorylaw25_sound.j2 (k + 1) y0 y1 y2 y3 y4 y5)) ∧ (∀ y0 y1 y2 y3 y4 y5, LeO (offertorylaw25_sound.l1 k y0 y1 y2 y3 y4 y5) (offertorylaw25_sound.l1 (k + 1) y0 y1 y2 y3 y4 y5))
  | 0 => ⟨fun _ _ _ _ _ r h => by simp [offertorylaw25_sound.j0] at h, fun _ _ _ _ _ r h => by simp [offertorylaw25_sound.l0] at h, fun _ _ _ _ _ _ r h => by simp [offertorylaw25_sound.j2] at h, fun _ _ _ _ _ _ r h => by simp [offertorylaw25_sound.l1] at h⟩
  | k + 1 => by
    obtain ⟨ih0, ih1, ih2, ih3⟩ := offertorylaw25_sound.mono_l k
    refine ⟨?_, ?_, ?_, ?_⟩
    · intro y0 y1 y2 y3 y4
      unfold offertorylaw25_sound.j0
      repeat' first
      | (with_reducible exact ih0 _ _ _ _ _)
      | (with_reducible exact ih1 _ _ _ _ _)
      | (with_reducible exact ih2 _ _ _ _ _ _)
      | (with_reducible exact ih3 _ _ _ _ _ _)
      | (with_reducible exact LeO.refl _)
      | (with_reducible exact LeO.none _)
      | (with_reducible refine LeO.ite ?_ ?_)
      | (with_reducible refine LeO.bind ?_ (fun _ => ?_))
      | exact ih0 _ _ _ _ _
      | exact ih1 _ _ _ _ _
      | exact ih2 _ _ _ _ _ _
      | exact ih3 _ _ _ _ _ _
      | exact LeO.none _
      | refine LeO.ite ?_ ?_
      | refine LeO.bind ?_ (fun _ => ?_)
    · intro y0 y1 y2 y3 y4
      unfold offertorylaw25_sound.l0
      repeat' first
      | (with_reducible exact ih0 _ _ _ _ _)
      | (with_reducible exact ih1 _ _ _ _ _)
      | (with_reducible exact ih2 _ _ _ _ _ _)
      | (with_reducible exact ih3 _ _ _ _ _ _)
      | (with_reducible exact LeO.refl _)
      | (with_reducible exact LeO.none _)
      | (with_reducible refine LeO.ite ?_ ?_)
      | (with_reducible refine LeO.bind ?_ (fun _ => ?_))
      | exact ih0 _ _ _ _ _
      | exact ih1 _ _ _ _ _
      | exact ih2 _ _ _ _ _ _
      | exact ih3 _ _ _ _ _ _
      | exact LeO.none _
      | refine LeO.ite ?_ ?_
      | refine LeO.bind ?_ (fun _ => ?_)
    · intro y0 y1 y2 y3 y4 y5
      unfold offertorylaw25_sound.j2
      repeat' first
      | (with_reducible exact ih0 _ _ _ _ _)
      | (with_reducible exact ih1 _ _ _ _ _)
      | (with_reducible exact ih2 _ _ _ _ _ _)
      | (with_reducible exact ih3 _ _ _ _ _ _)
      | (with_reducible exact LeO.refl _)
      | (with_reducible exact LeO.none _)
      | (with_reducible refine LeO.ite ?_ ?_)
      | (with_reducible refine LeO.bind ?_ (fun _ => ?_))
      | exact ih0 _ _ _ _ _
      | exact ih1 _ _ _ _ _
      | exact ih2 _ _ _ _ _ _
      | exact ih3 _ _ _ _ _ _
      | exact LeO.none _
      | refine LeO.ite ?_ ?_
      | refine LeO.bind ?_ (fun _ => ?_)
    · intro y0 y1 y2 y3 y4 y5
      unfold offertorylaw25_sound.l1
      repeat' first
      | (with_reducible exact ih0 _ _ _ _ _)
      | (with_reducible exact ih1 _ _ _ _ _)
      | (with_reducible exact ih2 _ _ _ _ _ _)
      | (with_reducible exact ih3 _ _ _ _ _ _)
      | (with_reducible exact LeO.refl _)
      | (with_reducible exact LeO.none _)
      | (with_reducible refine LeO.ite ?_ ?_)
      | (with_reducible refine LeO.bind ?_ (fun _ => ?_))
      | exact ih0 _ _ _ _ _
      | exact ih1 _ _ _ _ _
      | exact ih2 _ _ _ _ _ _
      | exact ih3 _ _ _ _ _ _
      | exact LeO.none _
      | refine LeO.ite ?_ ?_
      | refine LeO.bind ?_ (fun _ => ?_)
theorem offertorylaw25_sound.mono : ∀ a0 a1 a2 a3 k, LeO (offertorylaw25_sound.f k a0 a1 a2 a3) (offertorylaw25_sound.f (k + 1) a0 a1 a2 a3) := by
  intro a0 a1 a2 a3 k
  obtain ⟨ih0, ih1, ih2, ih3⟩ := offertorylaw25_sound.mono_l k
  unfold offertorylaw25_sound.f
  repeat' first
      | (with_reducible exact ih0 _ _ _ _ _)
      | (with_reducible exact ih1 _ _ _ _ _)
      | (with_reducible exact ih2 _ _ _ _ _ _)
      | (with_reducible exact ih3 _ _ _ _ _ _)
      | (with_reducible exact LeO.refl _)
      | (with_reducible exact LeO.none _)
      | (with_reducible refine LeO.ite ?_ ?_)
      | (with_reducible refine LeO.bind ?_ (fun _ => ?_))
      | exact ih0 _ _ _ _ _
      | exact ih1 _ _ _ _ _
      | exact ih2 _ _ _ _ _ _
      | exact ih3 _ _ _ _ _ _
      | exact LeO.none _
      | refine LeO.ite ?_ ?_
      | refine LeO.bind ?_ (fun _ => ?_)
set_option maxHeartbeats 8000000 in
set_option maxRecDepth 100000 in
theorem offertorylaw25_sound.calls (k : Nat) (A0_0 : Option Addr) (c0_0 : Nat) (l0_0 : List (List Int)) (A0_1 : Option Addr) (c0_1 : Nat) (l0_1 : List (List (List Int))) (a1 : Int) (a2 : Int) (r : Bool) (w : World) (hr0_0 : Kd.C (Kd.slice 37 (Kd.int .u32)) w A0_0 l0_0.length l0_0) (hc0_0 : l0_0.length ≤ c0_0) (hr0_1 : Kd.C (Kd.slice 35 (Kd.slice 37 (Kd.int .u32))) w A0_1 l0_1.length l0_1) (hc0_1 : l0_1.length ≤ c0_1) (h : offertorylaw25_sound.f k l0_0 l0_1 a1 a2 = some r) :
    Calls Tryd.prog 11 #[.agg #[.slice A0_0 l0_0.length c0_0, .slice A0_1 l0_1.length c0_1], .int .i64 a1, .int .i64 a2] w fun e w' => e = .returned (.bool r) ∧ Below w.heap.size w w' := by
  have hu25 := Tryd.underlying25
  have HR0_0 := Aside0.mk hr0_0
  have HC0_0 := Aside0.mk hc0_0
  clear hr0_0 hc0_0
  have HR0_1 := Aside0.mk hr0_1
  have HC0_1 := Aside0.mk hc0_1
  clear hr0_1 hc0_1
  have HB := Aside0.mk (Below.refl w.heap.size w)
  have H : (if a1 < 1 then (offertorylaw25_sound.j0 k a1 a2 true l0_0 l0_1) else (if a1 > 64 then (offertorylaw25_sound.j0 k a1 a2 true l0_0 l0_1) else (if a2 < 0 then (offertorylaw25_sound.j0 k a1 a2 true l0_0 l0_1) else (if a2 > 256 then (offertorylaw25_sound.j0 k a1 a2 true l0_0 l0_1) else (if (l0_0.length : Int) = a1 then (offertorylaw25_sound.j0 k a1 a2 ((l0_1.length : Int) != a1) l0_0 l0_1) else (offertorylaw25_sound.j0 k a1 a2 true l0_0 l0_1)))))) = some r := h
  clear h
  have HC4 := Aside0.mk H
  clear H
  go_enter Tryd.func11, Tryd.ntmps11
  go_upto_region 1 with (first | ((with_reducible refine gate_dst (N := 3) rfl ?_); (try (refine gate_guard (by rfl) ?_; dsimp only)); refine box_event ?hg (N := 3) ?hd (cs := #[.slice A0_0 l0_0.length c0_0, .slice A0_1 l0_1.length c0_1]) (t := 25) ?hr ?_; (case hd => rfl); (case hg => rfl); (case hr => first | (go_simp; done) | (go_simp; rfl)); intro gb186 hg w5 hbox hb; have n0_ := Aside0.mk (below_step (by repeat (first | (with_reducible first | exact HB.out | apply below_alloc | apply pw_below_drewN | apply below_drew1) | exact HB.out)) hb); have n1_ := Aside0.mk (hbox); have n2_ := Aside0.mk ((by rw [hg]; exact (below_size (by repeat (first | (with_reducible first | exact HB.out | apply below_alloc | apply pw_below_drewN | apply below_drew1) | exact HB.out))) : w.heap.size ≤ gb186)); have n3_ := Aside0.mk ((by rw [hg]; exact (below_size (by repeat (first | (with_reducible first | exact HB.out | apply below_alloc | apply pw_below_drewN | apply below_drew1) | exact HB.out))) : w.heap.size ≤ gb186)); clear HB; have HB := n0_; have BK186 := n1_; have GW186 := n2_; have GE186 := n3_; clear n0_ n1_ n2_ n3_; clear hb hbox hg))
  (try simp only [Act.put, List.setIfInBounds_toArray, List.set_cons_zero, List.set_cons_succ])
  go_cut [36] (fun v36 wc => ∃ (kq : Nat) (x36_3 : Bool), v36 = .bool x36_3 ∧ Aside0 (offertorylaw25_sound.j0 kq a1 a2 x36_3 l0_0 l0_1 = some r) ∧ Aside0 (kq ≤ k) ∧ Aside0 (wc.heap[gb186]? = some (.cells #[(.slice A0_0 l0_0.length c0_0), (.slice A0_1 l0_1.length c0_1)] 25 (0, 0))) ∧ Aside0 (Below w.heap.size w wc))
  case first =>
    have H := HC4.out
    clear HC4
    by_cases c6 : a1 < 1
    · rw [if_pos c6] at H
      have c6b0 : decide (a1 < 1) = true := decide_eq_true c6
      clear c6
      (first | rw [c6b0] | (simp only [i64_w, i32_w]; rw [c6b0]) | skip)
      have H' := Aside0.mk H
      clear H
      go_wp2
      go_meet
      case rel => exact ⟨_, (true), (by first | rfl | (simp; done) | (simp [*]; done)), H', ⟨by first | omega | exact Nat.le_refl _⟩, ⟨by (with_reducible repeat (first | refine blk_drewN ?_ _ | refine blk_drew ?_ | refine blk_alloc ?_ _)); exact BK186.out⟩, ⟨by repeat (first | (with_reducible first | exact HB.out | apply below_alloc | apply pw_below_drewN | apply below_drew1 | refine below_set ?_ GE186.out) | exact HB.out)⟩⟩
    · rw [if_neg c6] at H
      have c6b0 : decide (a1 < 1) = false := decide_eq_false c6
      clear c6
      (first | rw [c6b0] | (simp only [i64_w, i32_w]; rw [c6b0]) | skip)
      by_cases c7 : a1 > 64
      · rw [if_pos c7] at H
        have c7b0 : decide (64 < a1) = true := decide_eq_true c7
        clear c7
        have H' := Aside0.mk H
        clear H
        go_wp2
        go_meet
        case rel => exact ⟨_, (true), (by first | rfl | (simp; done) | (simp [*]; done)), H', ⟨by first | omega | exact Nat.le_refl _⟩, ⟨by (with_reducible repeat (first | refine blk_drewN ?_ _ | refine blk_drew ?_ | refine blk_alloc ?_ _)); exact BK186.out⟩, ⟨by repeat (first | (with_reducible first | exact HB.out | apply below_alloc | apply pw_below_drewN | apply below_drew1 | refine below_set ?_ GE186.out) | exact HB.out)⟩⟩
      · rw [if_neg c7] at H
        have c7b0 : decide (64 < a1) = false := decide_eq_false c7
        clear c7
        by_cases c8 : a2 < 0
        · rw [if_pos c8] at H
          have c8b0 : decide (a2 < 0) = true := decide_eq_true c8
          clear c8
          have H' := Aside0.mk H
          clear H
          go_wp2
          go_meet
          case rel => exact ⟨_, (true), (by first | rfl | (simp; done) | (simp [*]; done)), H', ⟨by first | omega | exact Nat.le_refl _⟩, ⟨by (with_reducible repeat (first | refine blk_drewN ?_ _ | refine blk_drew ?_ | refine blk_alloc ?_ _)); exact BK186.out⟩, ⟨by repeat (first | (with_reducible first | exact HB.out | apply below_alloc | apply pw_below_drewN | apply below_drew1 | refine below_set ?_ GE186.out) | exact HB.out)⟩⟩
        · rw [if_neg c8] at H
          have c8b0 : decide (a2 < 0) = false := decide_eq_false c8
          clear c8
          by_cases c9 : a2 > 256
          · rw [if_pos c9] at H
            have c9b0 : decide (256 < a2) = true := decide_eq_true c9
            clear c9
            have H' := Aside0.mk H
            clear H
            go_wp2
            go_meet
            case rel => exact ⟨_, (true), (by first | rfl | (simp; done) | (simp [*]; done)), H', ⟨by first | omega | exact Nat.le_refl _⟩, ⟨by (with_reducible repeat (first | refine blk_drewN ?_ _ | refine blk_drew ?_ | refine blk_alloc ?_ _)); exact BK186.out⟩, ⟨by repeat (first | (with_reducible first | exact HB.out | apply below_alloc | apply pw_below_drewN | apply below_drew1 | refine below_set ?_ GE186.out) | exact HB.out)⟩⟩
          · rw [if_neg c9] at H
            have c9b0 : decide (256 < a2) = false := decide_eq_false c9
            clear c9
            by_cases c10 : (l0_0.length : Int) = a1
            · rw [if_pos c10] at H
              have c10b0 : ((l0_0.length : Int) == a1) = true := beq_iff_eq.mpr c10
              have c10b1 : ((l0_0.length : Int) != a1) = false := bne_eq_false_iff_eq.mpr c10
              clear c10
              have H' := Aside0.mk H
              clear H
              have hcz11_0 : w5.cell? ⟨gb186, 0, none⟩ = some (.slice A0_0 l0_0.length c0_0) := (blk_cell BK186.out 0).trans rfl
              have hcz11_1 : w5.cell? ⟨gb186, 1, none⟩ = some (.slice A0_1 l0_1.length c0_1) := (blk_cell BK186.out 1).trans rfl
              have hfz11_0 := blk_frozen BK186.out 0
              have hfz11_1 := blk_frozen BK186.out 1
              go_wp2
              go_meet
              case rel => exact ⟨_, (((l0_1.length : Int) != a1)), (by first | rfl | (simp; done) | (simp [*]; done)), H', ⟨by first | omega | exact Nat.le_refl _⟩, ⟨by (with_reducible repeat (first | refine blk_drewN ?_ _ | refine blk_drew ?_ | refine blk_alloc ?_ _)); exact BK186.out⟩, ⟨by repeat (first | (with_reducible first | exact HB.out | apply below_alloc | apply pw_below_drewN | apply below_drew1 | refine below_set ?_ GE186.out) | exact HB.out)⟩⟩
            · rw [if_neg c10] at H
              have c10b0 : ((l0_0.length : Int) == a1) = false := beq_eq_false_iff_ne.mpr c10
              have c10b1 : ((l0_0.length : Int) != a1) = true := bne_iff_ne.mpr c10
              have H' := Aside0.mk H
              clear H
              have hcz12_0 : w5.cell? ⟨gb186, 0, none⟩ = some (.slice A0_0 l0_0.length c0_0) := (blk_cell BK186.out 0).trans rfl
              have hcz12_1 : w5.cell? ⟨gb186, 1, none⟩ = some (.slice A0_1 l0_1.length c0_1) := (blk_cell BK186.out 1).trans rfl
              have hfz12_0 := blk_frozen BK186.out 0
              have hfz12_1 := blk_frozen BK186.out 1
              go_wp2
              go_meet
              case rel => exact ⟨_, (true), (by first | rfl | (simp; done) | (simp [*]; done)), H', ⟨by first | omega | exact Nat.le_refl _⟩, ⟨by (with_reducible repeat (first | refine blk_drewN ?_ _ | refine blk_drew ?_ | refine blk_alloc ?_ _)); exact BK186.out⟩, ⟨by repeat (first | (with_reducible first | exact HB.out | apply below_alloc | apply pw_below_drewN | apply below_drew1 | refine below_set ?_ GE186.out) | exact HB.out)⟩⟩
  case rest =>
    clear HC4
    try clear c1
    try clear p2
    try clear c6
    try clear c6b0
    try clear c7
    try clear c7b0
    try clear c8
    try clear c8b0
    try clear c9
    try clear c9b0
    try clear c10
    try clear c10b0
    try clear c10b1
    try clear c11
    try clear hcz11_0
    try clear hcz11_1
    try clear hcz12_0
    try clear hcz12_1
    try clear hfz11_0
    try clear hfz11_1
    try clear hfz12_0
    try clear hfz12_1
    obtain ⟨kq, x36_3, rfl, HA, HJ3, BK186, HB⟩ := hcut
    cases kq with
    | zero => exact absurd HA.out (by simp [offertorylaw25_sound.j0])
    | succ kj3 =>
      have H := HA.out
      clear HA
      simp only [offertorylaw25_sound.j0] at H
      by_cases c13 : x36_3 = true
      · subst c13
        have H1 : (some false) = some r := by rw [if_pos rfl] at H; exact H
        clear H
        have H := H1
        clear H1
        obtain rfl := Option.some.inj H
        go_wp2
        go_ret
        exact ⟨by first | rfl | (simp [errW_none, errW_some] <;> rfl) | (simp [*, errW_none, errW_some] <;> rfl), by repeat (first | (with_reducible first | exact HB.out | apply below_alloc | apply pw_below_drewN | apply below_drew1 | refine below_set ?_ GE186.out) | exact HB.out)⟩
      · replace c13 := Bool.eq_false_iff.mpr c13
        subst c13
        have H1 : (offertorylaw25_sound.l0 kj3 a1 a2 0 l0_0 l0_1) = some r := by rw [if_neg (show ¬ (false = true) by decide)] at H; exact H
        clear H
        have H := H1
        clear H1
        have H' := Aside0.mk H
        clear H
        go_wp2
        go_loopg [7] kj3 (fun kq v7 w' => ∃ (x7_2 : Int), v7 = .int .i64 x7_2 ∧ Aside0 (offertorylaw25_sound.l0 kq a1 a2 x7_2 l0_0 l0_1 = some r) ∧ Aside0 (kq ≤ kj3) ∧ Aside0 (w'.heap[gb186]? = some (.cells #[(.slice A0_0 l0_0.length c0_0), (.slice A0_1 l0_1.length c0_1)] 25 (0, 0))) ∧ Aside0 (Below w.heap.size w w'))
        case atStart => exact ⟨(0), (by first | rfl | (simp; done) | (simp [*]; done)), H', ⟨Nat.le_refl _⟩, ⟨by (with_reducible repeat (first | refine blk_drewN ?_ _ | refine blk_drew ?_ | refine blk_alloc ?_ _)); exact BK186.out⟩, ⟨by repeat (first | (with_reducible first | exact HB.out | apply below_alloc | apply pw_below_drewN | apply below_drew1 | refine below_set ?_ GE186.out) | exact HB.out)⟩⟩
        case round =>
          clear H'
          try clear c1
          try clear p2
          try clear c6
          try clear c6b0
          try clear c7
          try clear c7b0
          try clear c8
          try clear c8b0
          try clear c9
          try clear c9b0
          try clear c10
          try clear c10b0
          try clear c10b1
          try clear c11
          try clear c13
          try clear hcz11_0
          try clear hcz11_1
          try clear hcz12_0
          try clear hcz12_1
          try clear hfz11_0
          try clear hfz11_1
          try clear hfz12_0
          try clear hfz12_1
          try clear p2
          obtain ⟨x7_2, rfl, HA, HK2, BK186, HB⟩ := hrel
          cases gk with
          | zero => exact absurd HA.out (by simp [offertorylaw25_sound.l0])
          | succ k2 =>
            have H := HA.out
            clear HA
            simp only [offertorylaw25_sound.l0] at H
            by_cases c14 : x7_2 < a1
            · rw [if_pos c14] at H
              have c14b0 : decide (x7_2 < a1) = true := decide_eq_true c14
              clear c14
              have HC15 := Aside0.mk H
              clear H
              go_upto_region 6 with (fail)
              go_cut [59] (fun v59 wc => ∃ (kq : Nat) (x59_14 : Bool), v59 = .bool x59_14 ∧ Aside0 (offertorylaw25_sound.j2 kq a1 a2 x7_2 x59_14 l0_0 l0_1 = some r) ∧ Aside0 (kq ≤ k2) ∧ Aside0 (wc.heap[gb186]? = some (.cells #[(.slice A0_0 l0_0.length c0_0), (.slice A0_1 l0_1.length c0_1)] 25 (0, 0))) ∧ Aside0 (Below w.heap.size w wc))
              case first =>
                have H := HC15.out
                clear HC15
                by_cases c16 : 0 ≤ x7_2
                · rw [if_pos c16] at H
                  have c16b0 : decide (0 ≤ x7_2) = true := decide_eq_true c16
                  clear c16
                  (first | rw [c16b0] | (simp only [i64_w, i32_w]; rw [c16b0]) | skip)
                  by_cases c17 : x7_2 < (l0_0.length : Int)
                  · rw [if_pos c17] at H
                    have c17b0 : decide (x7_2 < (l0_0.length : Int)) = true := decide_eq_true c17
                    clear c17
                    by_cases c18 : ((rd_L1 l0_0 x7_2).length : Int) = a2
                    · rw [if_pos c18] at H
                      have c18b0 : (((rd_L1 l0_0 x7_2).length : Int) == a2) = true := beq_iff_eq.mpr c18
                      have c18b1 : (((rd_L1 l0_0 x7_2).length : Int) != a2) = false := bne_eq_false_iff_eq.mpr c18
                      clear c18
                      by_cases c19 : x7_2 < (l0_1.length : Int)
                      · rw [if_pos c19] at H
                        have c19b0 : decide (x7_2 < (l0_1.length : Int)) = true := decide_eq_true c19
                        clear c19
                        have H' := Aside0.mk H
                        clear H
                        have hcz20_0 : wr.cell? ⟨gb186, 0, none⟩ = some (.slice A0_0 l0_0.length c0_0) := (blk_cell BK186.out 0).trans rfl
                        have hcz20_1 : wr.cell? ⟨gb186, 1, none⟩ = some (.slice A0_1 l0_1.length c0_1) := (blk_cell BK186.out 1).trans rfl
                        have hfz20_0 := blk_frozen BK186.out 0
                        have hfz20_1 := blk_frozen BK186.out 1
                        have p187 : 0 ≤ (x7_2 : Int) := of_decide_eq_true (by first | (with_reducible assumption) | assumption)
                        have q187 : x7_2 < (l0_0.length : Int) := of_decide_eq_true (by first | (with_reducible assumption) | assumption)
                        obtain ⟨ad187, A187_0, c187_0, e187, hx187_0, hl187_0, hi187_0⟩ := at_L1 HR0_0.out x7_2 p187 q187
                        cases e187
                        replace hx187_0 := (HB.out.cell (World.block_lt_of_cell? w _ hx187_0)).trans hx187_0
                        have HR187_0 := Aside0.mk hi187_0
                        have HC187_0 := Aside0.mk hl187_0
                        clear hi187_0 hl187_0
                        replace p187 := eq_true p187
                        replace q187 := eq_true q187
                        have p188 : 0 ≤ (x7_2 : Int) := of_decide_eq_true (by first | (with_reducible assumption) | assumption)
                        have q188 : x7_2 < (l0_1.length : Int) := of_decide_eq_true (by first | (with_reducible assumption) | assumption)
                        obtain ⟨ad188, A188_0, c188_0, e188, hx188_0, hl188_0, hi188_0⟩ := at_L2 HR0_1.out x7_2 p188 q188
                        cases e188
                        replace hx188_0 := (HB.out.cell (World.block_lt_of_cell? w _ hx188_0)).trans hx188_0
                        have HR188_0 := Aside0.mk hi188_0
                        have HC188_0 := Aside0.mk hl188_0
                        clear hi188_0 hl188_0
                        replace p188 := eq_true p188
                        replace q188 := eq_true q188
                        go_wp2
                        go_meet
                        case rel => exact ⟨_, ((((rd_L2 l0_1 x7_2).length : Int) != a1)), (by first | rfl | (simp; done) | (simp [*]; done)), H', ⟨by have := HJ3.out; have := HK2.out; first | omega | exact Nat.le_refl _⟩, ⟨by (with_reducible repeat (first | refine blk_drewN ?_ _ | refine blk_drew ?_ | refine blk_alloc ?_ _)); exact BK186.out⟩, ⟨by repeat (first | (with_reducible first | exact HB.out | apply below_alloc | apply pw_below_drewN | apply below_drew1 | refine below_set ?_ GE186.out) | exact HB.out)⟩⟩
                      · rw [if_neg c19] at H
                        exact absurd H (by simp)
                    · rw [if_neg c18] at H
                      have c18b0 : (((rd_L1 l0_0 x7_2).length : Int) == a2) = false := beq_eq_false_iff_ne.mpr c18
                      have c18b1 : (((rd_L1 l0_0 x7_2).length : Int) != a2) = true := bne_iff_ne.mpr c18
                      have H' := Aside0.mk H
                      clear H
                      have hcz21_0 : wr.cell? ⟨gb186, 0, none⟩ = some (.slice A0_0 l0_0.length c0_0) := (blk_cell BK186.out 0).trans rfl
                      have hcz21_1 : wr.cell? ⟨gb186, 1, none⟩ = some (.slice A0_1 l0_1.length c0_1) := (blk_cell BK186.out 1).trans rfl
                      have hfz21_0 := blk_frozen BK186.out 0
                      have hfz21_1 := blk_frozen BK186.out 1
                      have p187 : 0 ≤ (x7_2 : Int) := of_decide_eq_true (by first | (with_reducible assumption) | assumption)
                      have q187 : x7_2 < (l0_0.length : Int) := of_decide_eq_true (by first | (with_reducible assumption) | assumption)
                      obtain ⟨ad187, A187_0, c187_0, e187, hx187_0, hl187_0, hi187_0⟩ := at_L1 HR0_0.out x7_2 p187 q187
                      cases e187
                      replace hx187_0 := (HB.out.cell (World.block_lt_of_cell? w _ hx187_0)).trans hx187_0
                      have HR187_0 := Aside0.mk hi187_0
                      have HC187_0 := Aside0.mk hl187_0
                      clear hi187_0 hl187_0
                      replace p187 := eq_true p187
                      replace q187 := eq_true q187
                      go_wp2
                      go_meet
                      case rel => exact ⟨_, (true), (by first | rfl | (simp; done) | (simp [*]; done)), H', ⟨by have := HJ3.out; have := HK2.out; first | omega | exact Nat.le_refl _⟩, ⟨by (with_reducible repeat (first | refine blk_drewN ?_ _ | refine blk_drew ?_ | refine blk_alloc ?_ _)); exact BK186.out⟩, ⟨by repeat (first | (with_reducible first | exact HB.out | apply below_alloc | apply pw_below_drewN | apply below_drew1 | refine below_set ?_ GE186.out) | exact HB.out)⟩⟩
                  · rw [if_neg c17] at H
                    exact absurd H (by simp)
                · rw [if_neg c16] at H
                  exact absurd H (by simp)
              case rest =>
                clear HC15
                try clear c1
                try clear p1
                try clear q1
                try clear hx1
                try clear p2
                try clear c6
                try clear c6b0
                try clear c7
                try clear c7b0
                try clear c8
                try clear c8b0
                try clear c9
                try clear c9b0
                try clear c10
                try clear c10b0
                try clear c10b1
                try clear c11
                try clear c13
                try clear c14
                try clear c14b0
                try clear c16
                try clear c16b0
                try clear c17
                try clear c17b0
                try clear c18
                try clear c18b0
                try clear c18b1
                try clear p18
                try clear q18
                try clear hx18
                try clear c19
                try clear c19b0
                try clear hcz11_0
                try clear hcz11_1
                try clear hcz12_0
                try clear hcz12_1
                try clear hcz20_0
                try clear hcz20_1
                try clear hcz21_0
                try clear hcz21_1
                try clear hfz11_0
                try clear hfz11_1
                try clear hfz12_0
                try clear hfz12_1
                try clear hfz20_0
                try clear hfz20_1
                try clear hfz21_0
                try clear hfz21_1
                try clear hx187_0
                try clear hx188_0
                try clear p187
                try clear p188
                try clear p2
                try clear q187
                try clear q188
                obtain ⟨kq, x59_14, rfl, HA, HJ14, BK186, HB⟩ := hcut
                cases kq with
                | zero => exact absurd HA.out (by simp [offertorylaw25_sound.j2])
                | succ kj14 =>
                  have H := HA.out
                  clear HA
                  simp only [offertorylaw25_sound.j2] at H
                  by_cases c22 : x59_14 = true
                  · subst c22
                    have H1 : (some false) = some r := by rw [if_pos rfl] at H; exact H
                    clear H
                    have H := H1
                    clear H1
                    obtain rfl := Option.some.inj H
                    go_wp2
                    go_ret
                    exact ⟨by first | rfl | (simp [errW_none, errW_some] <;> rfl) | (simp [*, errW_none, errW_some] <;> rfl), by repeat (first | (with_reducible first | exact HB.out | apply below_alloc | apply pw_below_drewN | apply below_drew1 | refine below_set ?_ GE186.out) | exact HB.out)⟩
                  · replace c22 := Bool.eq_false_iff.mpr c22
                    subst c22
                    have H1 : (offertorylaw25_sound.l1 kj14 a1 a2 x7_2 0 l0_0 l0_1) = some r := by rw [if_neg (show ¬ (false = true) by decide)] at H; exact H
                    clear H
                    have H := H1
                    clear H1
                    have H' := Aside0.mk H
                    clear H
                    go_wp2
                    go_loopg [8] kj14 (fun kq v8 w' => ∃ (x8_4 : Int), v8 = .int .i64 x8_4 ∧ Aside0 (offertorylaw25_sound.l1 kq a1 a2 x7_2 x8_4 l0_0 l0_1 = some r) ∧ Aside0 (kq ≤ kj14) ∧ Aside0 (w'.heap[gb186]? = some (.cells #[(.slice A0_0 l0_0.length c0_0), (.slice A0_1 l0_1.length c0_1)] 25 (0, 0))) ∧ Aside0 (Below w.heap.size w w'))
                    case atStart => exact ⟨(0), (by first | rfl | (simp; done) | (simp [*]; done)), H', ⟨Nat.le_refl _⟩, ⟨by (with_reducible repeat (first | refine blk_drewN ?_ _ | refine blk_drew ?_ | refine blk_alloc ?_ _)); exact BK186.out⟩, ⟨by repeat (first | (with_reducible first | exact HB.out | apply below_alloc | apply pw_below_drewN | apply below_drew1 | refine below_set ?_ GE186.out) | exact HB.out)⟩⟩
                    case round =>
                      clear H'
                      try clear c1
                      try clear p1
                      try clear q1
                      try clear hx1
                      try clear c2
                      try clear p2
                      try clear c6
                      try clear c6b0
                      try clear c7
                      try clear c7b0
                      try clear c8
                      try clear c8b0
                      try clear c9
                      try clear c9b0
                      try clear c10
                      try clear c10b0
                      try clear c10b1
                      try clear c11
                      try clear c13
                      try clear c14
                      try clear c14b0
                      try clear c16
                      try clear c16b0
                      try clear c17
                      try clear c17b0
                      try clear c18
                      try clear c18b0
                      try clear c18b1
                      try clear p18
                      try clear q18
                      try clear hx18
                      try clear c19
                      try clear c19b0
                      try clear c22
                      try clear hcz11_0
                      try clear hcz11_1
                      try clear hcz12_0
                      try clear hcz12_1
                      try clear hcz20_0
                      try clear hcz20_1
                      try clear hcz21_0
                      try clear hcz21_1
                      try clear hfz11_0
                      try clear hfz11_1
                      try clear hfz12_0
                      try clear hfz12_1
                      try clear hfz20_0
                      try clear hfz20_1
                      try clear hfz21_0
                      try clear hfz21_1
                      try clear hx187_0
                      try clear hx188_0
                      try clear p1
                      try clear p18
                      try clear p187
                      try clear p188
                      try clear p2
                      try clear q1
                      try clear q18
                      try clear q187
                      try clear q188
                      obtain ⟨x8_4, rfl, HA, HK4, BK186, HB⟩ := hrel
                      cases gk with
                      | zero => exact absurd HA.out (by simp [offertorylaw25_sound.l1])
                      | succ k4 =>
                        have H := HA.out
                        clear HA
                        simp only [offertorylaw25_sound.l1] at H
                        by_cases c23 : x8_4 < a1
                        · rw [if_pos c23] at H
                          have c23b0 : decide (x8_4 < a1) = true := decide_eq_true c23
                          clear c23
                          by_cases c24 : x8_4 ≤ x7_2
                          · rw [if_pos c24] at H
                            have c24b0 : decide (x8_4 ≤ x7_2) = true := decide_eq_true c24
                            clear c24
                            by_cases c25 : 0 ≤ x7_2
                            · rw [if_pos c25] at H
                              have c25b0 : decide (0 ≤ x7_2) = true := decide_eq_true c25
                              clear c25
                              by_cases c26 : x7_2 < (l0_1.length : Int)
                              · rw [if_pos c26] at H
                                have c26b0 : decide (x7_2 < (l0_1.length : Int)) = true := decide_eq_true c26
                                clear c26
                                by_cases c27 : 0 ≤ x8_4
                                · rw [if_pos c27] at H
                                  have c27b0 : decide (0 ≤ x8_4) = true := decide_eq_true c27
                                  clear c27
                                  by_cases c28 : x8_4 < ((rd_L2 l0_1 x7_2).length : Int)
                                  · rw [if_pos c28] at H
                                    have c28b0 : decide (x8_4 < ((rd_L2 l0_1 x7_2).length : Int)) = true := decide_eq_true c28
                                    clear c28
                                    by_cases c29 : ((rd_L1 (rd_L2 l0_1 x7_2) x8_4).length : Int) = 0
                                    · rw [if_pos c29] at H
                                      have c29b0 : (((rd_L1 (rd_L2 l0_1 x7_2) x8_4).length : Int) == 0) = true := beq_iff_eq.mpr c29
                                      have c29b1 : (((rd_L1 (rd_L2 l0_1 x7_2) x8_4).length : Int) != 0) = false := bne_eq_false_iff_eq.mpr c29
                                      clear c29
                                      by_cases c30 : x8_4 > x7_2
                                      · rw [if_pos c30] at H
                                        have c30b0 : decide (x7_2 < x8_4) = true := decide_eq_true c30
                                        clear c30
                                        by_cases c31 : ((rd_L1 (rd_L2 l0_1 x7_2) x8_4).length : Int) = a2
                                        · rw [if_pos c31] at H
                                          have c31b0 : (((rd_L1 (rd_L2 l0_1 x7_2) x8_4).length : Int) == a2) = true := beq_iff_eq.mpr c31
                                          have c31b1 : (((rd_L1 (rd_L2 l0_1 x7_2) x8_4).length : Int) != a2) = false := bne_eq_false_iff_eq.mpr c31
                                          clear c31
                                          have H' := Aside0.mk H
                                          clear H
                                          have hcz32_0 : wr.cell? ⟨gb186, 0, none⟩ = some (.slice A0_0 l0_0.length c0_0) := (blk_cell BK186.out 0).trans rfl
                                          have hcz32_1 : wr.cell? ⟨gb186, 1, none⟩ = some (.slice A0_1 l0_1.length c0_1) := (blk_cell BK186.out 1).trans rfl
                                          have hfz32_0 := blk_frozen BK186.out 0
                                          have hfz32_1 := blk_frozen BK186.out 1
                                          have p189 : 0 ≤ (x7_2 : Int) := of_decide_eq_true (by first | (with_reducible assumption) | assumption)
                                          have q189 : x7_2 < (l0_1.length : Int) := of_decide_eq_true (by first | (with_reducible assumption) | assumption)
                                          obtain ⟨ad189, A189_0, c189_0, e189, hx189_0, hl189_0, hi189_0⟩ := at_L2 HR0_1.out x7_2 p189 q189
                                          cases e189
                                          replace hx189_0 := (HB.out.cell (World.block_lt_of_cell? w _ hx189_0)).trans hx189_0
                                          have HR189_0 := Aside0.mk hi189_0
                                          have HC189_0 := Aside0.mk hl189_0
                                          clear hi189_0 hl189_0
                                          replace p189 := eq_true p189
                                          replace q189 := eq_true q189
                                          have p190 : 0 ≤ (x8_4 : Int) := of_decide_eq_true (by first | (with_reducible assumption) | assumption)
                                          have q190 : x8_4 < ((rd_L2 l0_1 x7_2).length : Int) := of_decide_eq_true (by first | (with_reducible assumption) | assumption)
                                          obtain ⟨ad190, A190_0, c190_0, e190, hx190_0, hl190_0, hi190_0⟩ := at_L1 HR189_0.out x8_4 p190 q190
                                          cases e190
                                          replace hx190_0 := (HB.out.cell (World.block_lt_of_cell? w _ hx190_0)).trans hx190_0
                                          have HR190_0 := Aside0.mk hi190_0
                                          have HC190_0 := Aside0.mk hl190_0
                                          clear hi190_0 hl190_0
                                          replace p190 := eq_true p190
                                          replace q190 := eq_true q190
                                          have p191 : 0 ≤ (x7_2 : Int) := of_decide_eq_true (by first | (with_reducible assumption) | assumption)
                                          have q191 : x7_2 < (l0_1.length : Int) := of_decide_eq_true (by first | (with_reducible assumption) | assumption)
                                          obtain ⟨ad191, A191_0, c191_0, e191, hx191_0, hl191_0, hi191_0⟩ := at_L2 HR0_1.out x7_2 p191 q191
                                          obtain rfl : ad189 = ad191 := (by injection e191)
                                          replace hx191_0 := (HB.out.cell (World.block_lt_of_cell? w _ hx191_0)).trans hx191_0
                                          have HR191_0 := Aside0.mk hi191_0
                                          have HC191_0 := Aside0.mk hl191_0
                                          clear hi191_0 hl191_0
                                          replace p191 := eq_true p191
                                          replace q191 := eq_true q191
                                          have ea_ := Option.some.inj (hx189_0.symm.trans hx191_0)
                                          injection ea_ with ea_ en_ ec_
                                          subst ea_
                                          subst ec_
                                          clear en_
                                          have p192 : 0 ≤ (x8_4 : Int) := of_decide_eq_true (by first | (with_reducible assumption) | assumption)
                                          have q192 : x8_4 < ((rd_L2 l0_1 x7_2).length : Int) := of_decide_eq_true (by first | (with_reducible assumption) | assumption)
                                          obtain ⟨ad192, A192_0, c192_0, e192, hx192_0, hl192_0, hi192_0⟩ := at_L1 HR191_0.out x8_4 p192 q192
                                          cases e192
                                          replace hx192_0 := (HB.out.cell (World.block_lt_of_cell? w _ hx192_0)).trans hx192_0
                                          have HR192_0 := Aside0.mk hi192_0
                                          have HC192_0 := Aside0.mk hl192_0
                                          clear hi192_0 hl192_0
                                          replace p192 := eq_true p192
                                          replace q192 := eq_true q192
                                          have ea_ := Option.some.inj (hx190_0.symm.trans hx192_0)
                                          injection ea_ with ea_ en_ ec_
                                          subst ea_
                                          subst ec_
                                          clear en_
                                          go_wp2
                                          go_roundg k4
                                          case measure => have := HJ3.out; have := HK2.out; have := HJ14.out; have := HK4.out; omega
                                          case rel => exact ⟨(wrap64 (x8_4 + 1)), (by first | rfl | (simp; done) | (simp [*]; done)), H', ⟨by have := HJ3.out; have := HK2.out; have := HJ14.out; have := HK4.out; omega⟩, ⟨by (with_reducible repeat (first | refine blk_drewN ?_ _ | refine blk_drew ?_ | refine blk_alloc ?_ _)); exact BK186.out⟩, ⟨by repeat (first | (with_reducible first | exact HB.out | apply below_alloc | apply pw_below_drewN | apply below_drew1 | refine below_set ?_ GE186.out) | exact HB.out)⟩⟩
                                        · rw [if_neg c31] at H
                                          have c31b0 : (((rd_L1 (rd_L2 l0_1 x7_2) x8_4).length : Int) == a2) = false := beq_eq_false_iff_ne.mpr c31
                                          have c31b1 : (((rd_L1 (rd_L2 l0_1 x7_2) x8_4).length : Int) != a2) = true := bne_iff_ne.mpr c31
                                          obtain rfl := Option.some.inj H
                                          have hcz33_0 : wr.cell? ⟨gb186, 0, none⟩ = some (.slice A0_0 l0_0.length c0_0) := (blk_cell BK186.out 0).trans rfl
                                          have hcz33_1 : wr.cell? ⟨gb186, 1, none⟩ = some (.slice A0_1 l0_1.length c0_1) := (blk_cell BK186.out 1).trans rfl
                                          have hfz33_0 := blk_frozen BK186.out 0
                                          have hfz33_1 := blk_frozen BK186.out 1
                                          have p189 : 0 ≤ (x7_2 : Int) := of_decide_eq_true (by first | (with_reducible assumption) | assumption)
                                          have q189 : x7_2 < (l0_1.length : Int) := of_decide_eq_true (by first | (with_reducible assumption) | assumption)
                                          obtain ⟨ad189, A189_0, c189_0, e189, hx189_0, hl189_0, hi189_0⟩ := at_L2 HR0_1.out x7_2 p189 q189
                                          cases e189
                                          replace hx189_0 := (HB.out.cell (World.block_lt_of_cell? w _ hx189_0)).trans hx189_0
                                          have HR189_0 := Aside0.mk hi189_0
                                          have HC189_0 := Aside0.mk hl189_0
                                          clear hi189_0 hl189_0
                                          replace p189 := eq_true p189
                                          replace q189 := eq_true q189
                                          have p190 : 0 ≤ (x8_4 : Int) := of_decide_eq_true (by first | (with_reducible assumption) | assumption)
                                          have q190 : x8_4 < ((rd_L2 l0_1 x7_2).length : Int) := of_decide_eq_true (by first | (with_reducible assumption) | assumption)
                                          obtain ⟨ad190, A190_0, c190_0, e190, hx190_0, hl190_0, hi190_0⟩ := at_L1 HR189_0.out x8_4 p190 q190
                                          cases e190
                                          replace hx190_0 := (HB.out.cell (World.block_lt_of_cell? w _ hx190_0)).trans hx190_0
                                          have HR190_0 := Aside0.mk hi190_0
                                          have HC190_0 := Aside0.mk hl190_0
                                          clear hi190_0 hl190_0
                                          replace p190 := eq_true p190
                                          replace q190 := eq_true q190
                                          have p191 : 0 ≤ (x7_2 : Int) := of_decide_eq_true (by first | (with_reducible assumption) | assumption)
                                          have q191 : x7_2 < (l0_1.length : Int) := of_decide_eq_true (by first | (with_reducible assumption) | assumption)
                                          obtain ⟨ad191, A191_0, c191_0, e191, hx191_0, hl191_0, hi191_0⟩ := at_L2 HR0_1.out x7_2 p191 q191
                                          obtain rfl : ad189 = ad191 := (by injection e191)
                                          replace hx191_0 := (HB.out.cell (World.block_lt_of_cell? w _ hx191_0)).trans hx191_0
                                          have HR191_0 := Aside0.mk hi191_0
                                          have HC191_0 := Aside0.mk hl191_0
                                          clear hi191_0 hl191_0
                                          replace p191 := eq_true p191
                                          replace q191 := eq_true q191
                                          have ea_ := Option.some.inj (hx189_0.symm.trans hx191_0)
                                          injection ea_ with ea_ en_ ec_
                                          subst ea_
                                          subst ec_
                                          clear en_
                                          have p192 : 0 ≤ (x8_4 : Int) := of_decide_eq_true (by first | (with_reducible assumption) | assumption)
                                          have q192 : x8_4 < ((rd_L2 l0_1 x7_2).length : Int) := of_decide_eq_true (by first | (with_reducible assumption) | assumption)
                                          obtain ⟨ad192, A192_0, c192_0, e192, hx192_0, hl192_0, hi192_0⟩ := at_L1 HR191_0.out x8_4 p192 q192
                                          cases e192
                                          replace hx192_0 := (HB.out.cell (World.block_lt_of_cell? w _ hx192_0)).trans hx192_0
                                          have HR192_0 := Aside0.mk hi192_0
                                          have HC192_0 := Aside0.mk hl192_0
                                          clear hi192_0 hl192_0
                                          replace p192 := eq_true p192
                                          replace q192 := eq_true q192
                                          have ea_ := Option.some.inj (hx190_0.symm.trans hx192_0)
                                          injection ea_ with ea_ en_ ec_
                                          subst ea_
                                          subst ec_
                                          clear en_
                                          go_wp2
                                          go_ret
                                          exact ⟨by first | rfl | (simp [errW_none, errW_some] <;> rfl) | (simp [*, errW_none, errW_some] <;> rfl), by repeat (first | (with_reducible first | exact HB.out | apply below_alloc | apply pw_below_drewN | apply below_drew1 | refine below_set ?_ GE186.out) | exact HB.out)⟩
                                      · rw [if_neg c30] at H
                                        have c30b0 : decide (x7_2 < x8_4) = false := decide_eq_false c30
                                        clear c30
                                        have H' := Aside0.mk H
                                        clear H
                                        have hcz34_0 : wr.cell? ⟨gb186, 0, none⟩ = some (.slice A0_0 l0_0.length c0_0) := (blk_cell BK186.out 0).trans rfl
                                        have hcz34_1 : wr.cell? ⟨gb186, 1, none⟩ = some (.slice A0_1 l0_1.length c0_1) := (blk_cell BK186.out 1).trans rfl
                                        have hfz34_0 := blk_frozen BK186.out 0
                                        have hfz34_1 := blk_frozen BK186.out 1
                                        have p189 : 0 ≤ (x7_2 : Int) := of_decide_eq_true (by first | (with_reducible assumption) | assumption)
                                        have q189 : x7_2 < (l0_1.length : Int) := of_decide_eq_true (by first | (with_reducible assumption) | assumption)
                                        obtain ⟨ad189, A189_0, c189_0, e189, hx189_0, hl189_0, hi189_0⟩ := at_L2 HR0_1.out x7_2 p189 q189
                                        cases e189
                                        replace hx189_0 := (HB.out.cell (World.block_lt_of_cell? w _ hx189_0)).trans hx189_0
                                        have HR189_0 := Aside0.mk hi189_0
                                        have HC189_0 := Aside0.mk hl189_0
                                        clear hi189_0 hl189_0
                                        replace p189 := eq_true p189
                                        replace q189 := eq_true q189
                                        have p190 : 0 ≤ (x8_4 : Int) := of_decide_eq_true (by first | (with_reducible assumption) | assumption)
                                        have q190 : x8_4 < ((rd_L2 l0_1 x7_2).length : Int) := of_decide_eq_true (by first | (with_reducible assumption) | assumption)
                                        obtain ⟨ad190, A190_0, c190_0, e190, hx190_0, hl190_0, hi190_0⟩ := at_L1 HR189_0.out x8_4 p190 q190
                                        cases e190
                                        replace hx190_0 := (HB.out.cell (World.block_lt_of_cell? w _ hx190_0)).trans hx190_0
                                        have HR190_0 := Aside0.mk hi190_0
                                        have HC190_0 := Aside0.mk hl190_0
                                        clear hi190_0 hl190_0
                                        replace p190 := eq_true p190
                                        replace q190 := eq_true q190
                                        go_wp2
                                        go_roundg k4
                                        case measure => have := HJ3.out; have := HK2.out; have := HJ14.out; have := HK4.out; omega
                                        case rel => exact ⟨(wrap64 (x8_4 + 1)), (by first | rfl | (simp; done) | (simp [*]; done)), H', ⟨by have := HJ3.out; have := HK2.out; have := HJ14.out; have := HK4.out; omega⟩, ⟨by (with_reducible repeat (first | refine blk_drewN ?_ _ | refine blk_drew ?_ | refine blk_alloc ?_ _)); exact BK186.out⟩, ⟨by repeat (first | (with_reducible first | exact HB.out | apply below_alloc | apply pw_below_drewN | apply below_drew1 | refine below_set ?_ GE186.out) | exact HB.out)⟩⟩
                                    · rw [if_neg c29] at H
                                      have c29b0 : (((rd_L1 (rd_L2 l0_1 x7_2) x8_4).length : Int) == 0) = false := beq_eq_false_iff_ne.mpr c29
                                      have c29b1 : (((rd_L1 (rd_L2 l0_1 x7_2) x8_4).length : Int) != 0) = true := bne_iff_ne.mpr c29
                                      have c29b2 : ¬ ((rd_L1 (rd_L2 l0_1 x7_2) x8_4) = []) := fun h_ => c29 (by rw [h_]; rfl)
                                      obtain rfl := Option.some.inj H
                                      have hcz35_0 : wr.cell? ⟨gb186, 0, none⟩ = some (.slice A0_0 l0_0.length c0_0) := (blk_cell BK186.out 0).trans rfl
                                      have hcz35_1 : wr.cell? ⟨gb186, 1, none⟩ = some (.slice A0_1 l0_1.length c0_1) := (blk_cell BK186.out 1).trans rfl
                                      have hfz35_0 := blk_frozen BK186.out 0
                                      have hfz35_1 := blk_frozen BK186.out 1
                                      have p189 : 0 ≤ (x7_2 : Int) := of_decide_eq_true (by first | (with_reducible assumption) | assumption)
                                      have q189 : x7_2 < (l0_1.length : Int) := of_decide_eq_true (by first | (with_reducible assumption) | assumption)
                                      obtain ⟨ad189, A189_0, c189_0, e189, hx189_0, hl189_0, hi189_0⟩ := at_L2 HR0_1.out x7_2 p189 q189
                                      cases e189
                                      replace hx189_0 := (HB.out.cell (World.block_lt_of_cell? w _ hx189_0)).trans hx189_0
                                      have HR189_0 := Aside0.mk hi189_0
                                      have HC189_0 := Aside0.mk hl189_0
                                      clear hi189_0 hl189_0
                                      replace p189 := eq_true p189
                                      replace q189 := eq_true q189
                                      have p190 : 0 ≤ (x8_4 : Int) := of_decide_eq_true (by first | (with_reducible assumption) | assumption)
                                      have q190 : x8_4 < ((rd_L2 l0_1 x7_2).length : Int) := of_decide_eq_true (by first | (with_reducible assumption) | assumption)
                                      obtain ⟨ad190, A190_0, c190_0, e190, hx190_0, hl190_0, hi190_0⟩ := at_L1 HR189_0.out x8_4 p190 q190
                                      cases e190
                                      replace hx190_0 := (HB.out.cell (World.block_lt_of_cell? w _ hx190_0)).trans hx190_0
                                      have HR190_0 := Aside0.mk hi190_0
                                      have HC190_0 := Aside0.mk hl190_0
                                      clear hi190_0 hl190_0
                                      replace p190 := eq_true p190
                                      replace q190 := eq_true q190
                                      go_wp2
                                      go_ret
                                      exact ⟨by first | rfl | (simp [errW_none, errW_some] <;> rfl) | (simp [*, errW_none, errW_some] <;> rfl), by repeat (first | (with_reducible first | exact HB.out | apply below_alloc | apply pw_below_drewN | apply below_drew1 | refine below_set ?_ GE186.out) | exact HB.out)⟩
                                  · rw [if_neg c28] at H
                                    exact absurd H (by simp)
                                · rw [if_neg c27] at H
                                  exact absurd H (by simp)
                              · rw [if_neg c26] at H
                                exact absurd H (by simp)
                            · rw [if_neg c25] at H
                              exact absurd H (by simp)
                          · rw [if_neg c24] at H
                            have c24b0 : decide (x8_4 ≤ x7_2) = false := decide_eq_false c24
                            clear c24
                            by_cases c36 : x8_4 > x7_2
                            · rw [if_pos c36] at H
                              have c36b0 : decide (x7_2 < x8_4) = true := decide_eq_true c36
                              clear c36
                              by_cases c37 : 0 ≤ x7_2
                              · rw [if_pos c37] at H
                                have c37b0 : decide (0 ≤ x7_2) = true := decide_eq_true c37
                                clear c37
                                by_cases c38 : x7_2 < (l0_1.length : Int)
                                · rw [if_pos c38] at H
                                  have c38b0 : decide (x7_2 < (l0_1.length : Int)) = true := decide_eq_true c38
                                  clear c38
                                  by_cases c39 : 0 ≤ x8_4
                                  · rw [if_pos c39] at H
                                    have c39b0 : decide (0 ≤ x8_4) = true := decide_eq_true c39
                                    clear c39
                                    by_cases c40 : x8_4 < ((rd_L2 l0_1 x7_2).length : Int)
                                    · rw [if_pos c40] at H
                                      have c40b0 : decide (x8_4 < ((rd_L2 l0_1 x7_2).length : Int)) = true := decide_eq_true c40
                                      clear c40
                                      by_cases c41 : ((rd_L1 (rd_L2 l0_1 x7_2) x8_4).length : Int) = a2
                                      · rw [if_pos c41] at H
                                        have c41b0 : (((rd_L1 (rd_L2 l0_1 x7_2) x8_4).length : Int) == a2) = true := beq_iff_eq.mpr c41
                                        have c41b1 : (((rd_L1 (rd_L2 l0_1 x7_2) x8_4).length : Int) != a2) = false := bne_eq_false_iff_eq.mpr c41
                                        clear c41
                                        have H' := Aside0.mk H
                                        clear H
                                        have hcz42_0 : wr.cell? ⟨gb186, 0, none⟩ = some (.slice A0_0 l0_0.length c0_0) := (blk_cell BK186.out 0).trans rfl
                                        have hcz42_1 : wr.cell? ⟨gb186, 1, none⟩ = some (.slice A0_1 l0_1.length c0_1) := (blk_cell BK186.out 1).trans rfl
                                        have hfz42_0 := blk_frozen BK186.out 0
                                        have hfz42_1 := blk_frozen BK186.out 1
                                        have p193 : 0 ≤ (x7_2 : Int) := of_decide_eq_true (by first | (with_reducible assumption) | assumption)
                                        have q193 : x7_2 < (l0_1.length : Int) := of_decide_eq_true (by first | (with_reducible assumption) | assumption)
                                        obtain ⟨ad193, A193_0, c193_0, e193, hx193_0, hl193_0, hi193_0⟩ := at_L2 HR0_1.out x7_2 p193 q193
                                        cases e193
                                        replace hx193_0 := (HB.out.cell (World.block_lt_of_cell? w _ hx193_0)).trans hx193_0
                                        have HR193_0 := Aside0.mk hi193_0
                                        have HC193_0 := Aside0.mk hl193_0
                                        clear hi193_0 hl193_0
                                        replace p193 := eq_true p193
                                        replace q193 := eq_true q193
                                        have p194 : 0 ≤ (x8_4 : Int) := of_decide_eq_true (by first | (with_reducible assumption) | assumption)
                                        have q194 : x8_4 < ((rd_L2 l0_1 x7_2).length : Int) := of_decide_eq_true (by first | (with_reducible assumption) | assumption)
                                        obtain ⟨ad194, A194_0, c194_0, e194, hx194_0, hl194_0, hi194_0⟩ := at_L1 HR193_0.out x8_4 p194 q194
                                        cases e194
                                        replace hx194_0 := (HB.out.cell (World.block_lt_of_cell? w _ hx194_0)).trans hx194_0
                                        have HR194_0 := Aside0.mk hi194_0
                                        have HC194_0 := Aside0.mk hl194_0
                                        clear hi194_0 hl194_0
                                        replace p194 := eq_true p194
                                        replace q194 := eq_true q194
                                        go_wp2
                                        go_roundg k4
                                        case measure => have := HJ3.out; have := HK2.out; have := HJ14.out; have := HK4.out; omega
                                        case rel => exact ⟨(wrap64 (x8_4 + 1)), (by first | rfl | (simp; done) | (simp [*]; done)), H', ⟨by have := HJ3.out; have := HK2.out; have := HJ14.out; have := HK4.out; omega⟩, ⟨by (with_reducible repeat (first | refine blk_drewN ?_ _ | refine blk_drew ?_ | refine blk_alloc ?_ _)); exact BK186.out⟩, ⟨by repeat (first | (with_reducible first | exact HB.out | apply below_alloc | apply pw_below_drewN | apply below_drew1 | refine below_set ?_ GE186.out) | exact HB.out)⟩⟩
                                      · rw [if_neg c41] at H
                                        have c41b0 : (((rd_L1 (rd_L2 l0_1 x7_2) x8_4).length : Int) == a2) = false := beq_eq_false_iff_ne.mpr c41
                                        have c41b1 : (((rd_L1 (rd_L2 l0_1 x7_2) x8_4).length : Int) != a2) = true := bne_iff_ne.mpr c41
                                        obtain rfl := Option.some.inj H
                                        have hcz43_0 : wr.cell? ⟨gb186, 0, none⟩ = some (.slice A0_0 l0_0.length c0_0) := (blk_cell BK186.out 0).trans rfl
                                        have hcz43_1 : wr.cell? ⟨gb186, 1, none⟩ = some (.slice A0_1 l0_1.length c0_1) := (blk_cell BK186.out 1).trans rfl
                                        have hfz43_0 := blk_frozen BK186.out 0
                                        have hfz43_1 := blk_frozen BK186.out 1
                                        have p193 : 0 ≤ (x7_2 : Int) := of_decide_eq_true (by first | (with_reducible assumption) | assumption)
                                        have q193 : x7_2 < (l0_1.length : Int) := of_decide_eq_true (by first | (with_reducible assumption) | assumption)
                                        obtain ⟨ad193, A193_0, c193_0, e193, hx193_0, hl193_0, hi193_0⟩ := at_L2 HR0_1.out x7_2 p193 q193
                                        cases e193
                                        replace hx193_0 := (HB.out.cell (World.block_lt_of_cell? w _ hx193_0)).trans hx193_0
                                        have HR193_0 := Aside0.mk hi193_0
                                        have HC193_0 := Aside0.mk hl193_0
                                        clear hi193_0 hl193_0
                                        replace p193 := eq_true p193
                                        replace q193 := eq_true q193
                                        have p194 : 0 ≤ (x8_4 : Int) := of_decide_eq_true (by first | (with_reducible assumption) | assumption)
                                        have q194 : x8_4 < ((rd_L2 l0_1 x7_2).length : Int) := of_decide_eq_true (by first | (with_reducible assumption) | assumption)
                                        obtain ⟨ad194, A194_0, c194_0, e194, hx194_0, hl194_0, hi194_0⟩ := at_L1 HR193_0.out x8_4 p194 q194
                                        cases e194
                                        replace hx194_0 := (HB.out.cell (World.block_lt_of_cell? w _ hx194_0)).trans hx194_0
                                        have HR194_0 := Aside0.mk hi194_0
                                        have HC194_0 := Aside0.mk hl194_0
                                        clear hi194_0 hl194_0
                                        replace p194 := eq_true p194
                                        replace q194 := eq_true q194
                                        go_wp2
                                        go_ret
                                        exact ⟨by first | rfl | (simp [errW_none, errW_some] <;> rfl) | (simp [*, errW_none, errW_some] <;> rfl), by repeat (first | (with_reducible first | exact HB.out | apply below_alloc | apply pw_below_drewN | apply below_drew1 | refine below_set ?_ GE186.out) | exact HB.out)⟩
                                    · rw [if_neg c40] at H
                                      exact absurd H (by simp)
                                  · rw [if_neg c39] at H
                                    exact absurd H (by simp)
                                · rw [if_neg c38] at H
                                  exact absurd H (by simp)
                              · rw [if_neg c37] at H
                                exact absurd H (by simp)
                            · rw [if_neg c36] at H
                              have c36b0 : decide (x7_2 < x8_4) = false := decide_eq_false c36
                              clear c36
                              have H' := Aside0.mk H
                              clear H
                              go_wp2
                              go_roundg k4
                              case measure => have := HJ3.out; have := HK2.out; have := HJ14.out; have := HK4.out; omega
                              case rel => exact ⟨(wrap64 (x8_4 + 1)), (by first | rfl | (simp; done) | (simp [*]; done)), H', ⟨by have := HJ3.out; have := HK2.out; have := HJ14.out; have := HK4.out; omega⟩, ⟨by (with_reducible repeat (first | refine blk_drewN ?_ _ | refine blk_drew ?_ | refine blk_alloc ?_ _)); exact BK186.out⟩, ⟨by repeat (first | (with_reducible first | exact HB.out | apply below_alloc | apply pw_below_drewN | apply below_drew1 | refine below_set ?_ GE186.out) | exact HB.out)⟩⟩
                        · rw [if_neg c23] at H
                          have c23b0 : decide (x8_4 < a1) = false := decide_eq_false c23
                          clear c23
                          have H' := Aside0.mk H
                          clear H
                          go_wp2
                          go_roundg k4
                          case measure => have := HJ3.out; have := HK2.out; have := HJ14.out; have := HK4.out; omega
                          case rel => exact ⟨(wrap64 (x7_2 + 1)), (by first | rfl | (simp; done) | (simp [*]; done)), H', ⟨by have := HJ3.out; have := HK2.out; have := HJ14.out; have := HK4.out; omega⟩, ⟨by (with_reducible repeat (first | refine blk_drewN ?_ _ | refine blk_drew ?_ | refine blk_alloc ?_ _)); exact BK186.out⟩, ⟨by repeat (first | (with_reducible first | exact HB.out | apply below_alloc | apply pw_below_drewN | apply below_drew1 | refine below_set ?_ GE186.out) | exact HB.out)⟩⟩
            · rw [if_neg c14] at H
              have c14b0 : decide (x7_2 < a1) = false := decide_eq_false c14
              clear c14
              obtain rfl := Option.some.inj H
              go_wp2
              go_ret
              exact ⟨by first | rfl | (simp [errW_none, errW_some] <;> rfl) | (simp [*, errW_none, errW_some] <;> rfl), by repeat (first | (with_reducible first | exact HB.out | apply below_alloc | apply pw_below_drewN | apply below_drew1 | refine below_set ?_ GE186.out) | exact HB.out)⟩

end Go.Proofs.YtpicmnkkkgedeaaDoor.PAll
