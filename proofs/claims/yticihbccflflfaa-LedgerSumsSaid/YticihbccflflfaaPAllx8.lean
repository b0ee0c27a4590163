/- The Go functions that the laws reach, as Lean functions, and that each call comes to what its function says. Written by a program of this session (a turned copy of the kit's print). No condition beyond those that each theorem states. -/
import Derived.Test.YticihbccflflfaaPAllx0
import Derived.Test.YticihbccflflfaaPAllx1
import Derived.Test.YticihbccflflfaaPAllx6
import Derived.Test.YticihbccflflfaaPAllx7
namespace Go.Proofs.Yticihbccflflfaa.PAll
open Go.RowKit Go.Proofs.YticihbccflflfaaW.PrintWords Go.Proofs.YticihbccflflfaaW.PrintLast Go.Proofs.YticihbccflflfaaW.PrintMore
attribute [local go_sem] max2_int min2_int max_two min_two max_three min_three max_four min_four   -- for this text's walks alone
set_option linter.unusedVariables false
set_option linter.unusedSimpArgs false

attribute [local go_sem high] eqA25
/-! ### offertorylaw29_both: function 8 -/
theorem offertorylaw29_both.calls (A1 : Option Addr) (k1 : Nat) (l1 : List Int) (c1 s1 t1 q1 r1 : Int) (b1 : Bool) (A2 : Option Addr) (k2 : Nat) (l2 : List Int) (c2 s2 t2 q2 r2 : Int) (b2 : Bool) (t : Bool) (z1 : List Int) (z2 z3 z4 z5 z6 : Int) (z7 : Bool) (z8 : Int) (w : World) (hr1 : Kd.C (Kd.int .i64) w A1 l1.length l1) (hc1 : l1.length ≤ k1) (hr2 : Kd.C (Kd.int .i64) w A2 l2.length l2) (hc2 : l2.length ≤ k2) (h : offertorylaw29_both.f l1 c1 s1 t1 q1 r1 b1 l2 c2 s2 t2 q2 r2 b2 t = some (z1, z2, z3, z4, z5, z6, z7, z8)) :
    Calls Try.prog 8 #[.agg #[.slice A1 l1.length k1, .int .i64 c1, .int .u64 s1, .int .u64 t1, .int .u64 q1, .int .u64 r1, .bool b1], .agg #[.slice A2 l2.length k2, .int .i64 c2, .int .u64 s2, .int .u64 t2, .int .u64 q2, .int .u64 r2, .bool b2], .bool t] w fun e w' => ∃ v0_ : Value, e = .returned (.tuple #[.agg #[v0_, .int .i64 z2, .int .u64 z3, .int .u64 z4, .int .u64 z5, .int .u64 z6, .bool z7], .int .i64 z8]) ∧ Kd.R (Kd.int .i64) 3 w' w.heap.size (fun _ => True) v0_ z1 ∧ Below w.heap.size w w' := by
  unfold offertorylaw29_both.f at h
  by_cases hl : l1.length = l2.length
  · rw [if_pos hl] at h
    split at h
    case isFalse => cases h
    rename_i hm
    cases t
    · exact both_false A1 k1 l1 c1 s1 t1 q1 r1 b1 A2 k2 l2 c2 s2 t2 q2 r2 b2 z1 z2 z3 z4 z5 z6 z7 z8 w hr1 hc1 hr2 hc2 hl hm h
    · exact both_true A1 k1 l1 c1 s1 t1 q1 r1 b1 A2 k2 l2 c2 s2 t2 q2 r2 b2 z1 z2 z3 z4 z5 z6 z7 z8 w hr1 hc1 hr2 hc2 hl hm h
  · rw [if_neg hl] at h
    simp only [Option.some.injEq, Prod.mk.injEq] at h
    obtain ⟨rfl, rfl, rfl, rfl, rfl, rfl, rfl, rfl⟩ := h
    exact both_no A1 k1 l1 c1 s1 t1 q1 r1 b1 A2 k2 l2 c2 s2 t2 q2 r2 b2 t w hr1 hc1 hr2 hc2 hl

theorem offertoryref09_Same.keepB {W0 W w1 : World} {g : Nat} {o : Obj} (h : Aside0 (W0.heap[g]? = some o)) (hb : Below W.heap.size W w1) (hs : W0.heap[g]? = some o → W.heap[g]? = some o := by intro h_; (with_reducible repeat (first | refine blk_drewN ?_ _ | refine blk_drew ?_ | refine blk_alloc ?_ _)); exact h_) : Aside0 (w1.heap[g]? = some o) := ⟨(hb.block g (blk_lt (hs h.out))).trans (hs h.out)⟩
theorem offertoryref09_Same.neL {W0 W : World} {g gb : Nat} {o : Obj} (h : Aside0 (W0.heap[g]? = some o)) (hg : gb = W.heap.size) (hs : W0.heap[g]? = some o → W.heap[g]? = some o := by intro h_; (with_reducible repeat (first | refine blk_drewN ?_ _ | refine blk_drew ?_ | refine blk_alloc ?_ _)); exact h_) : Aside0 (g ≠ gb) := ⟨by rw [hg]; exact Nat.ne_of_lt (blk_lt (hs h.out))⟩
theorem offertoryref09_Same.neG {W0 W : World} {g gb : Nat} {o : Obj} (h : Aside0 (W0.heap[g]? = some o)) (hg : gb = W.heap.size) (hs : W0.heap[g]? = some o → W.heap[g]? = some o := by intro h_; (with_reducible repeat (first | refine blk_drewN ?_ _ | refine blk_drew ?_ | refine blk_alloc ?_ _)); exact h_) : Aside0 (gb ≠ g) := ⟨by rw [hg]; exact Nat.ne_of_gt (blk_lt (hs h.out))⟩
/-! ### offertoryref09_Same: function 10 -/
def offertoryref09_Same.l0 : Nat → Int → List Int → Int → Int → Int → Int → Int → Bool → List Int → Int → Int → Int → Int → Int → Bool → Option (Bool)
  | 0, _, _, _, _, _, _, _, _, _, _, _, _, _, _, _ => none
  | k + 1, x5, x165000, x165001, x165002, x165003, x165004, x165005, x165006, x166000, x166001, x166002, x166003, x166004, x166005, x166006 => if x5 < (x165000.length : Int) then (if 0 ≤ x5 then (if x5 < (x166000.length : Int) then (if (rd x165000 x5) = (rd x166000 x5) then (offertoryref09_Same.l0 k (wrap64 (x5 + 1)) x165000 x165001 x165002 x165003 x165004 x165005 x165006 x166000 x166001 x166002 x166003 x166004 x166005 x166006) else (some false)) else (none)) else (none)) else (if x165001 = x166001 then (if (x165002 == x166002 && (x165003 == x166003)) = true then (if (x165004 == x166004 && (x165005 == x166005)) = true then (some (x165006 == x166006)) else (some false)) else (some false)) else (some false))
def offertoryref09_Same.f (k : Nat) (l0_0 : List Int) (a0_1 : Int) (a0_2 : Int) (a0_3 : Int) (a0_4 : Int) (a0_5 : Int) (a0_6 : Bool) (l1_0 : List Int) (a1_1 : Int) (a1_2 : Int) (a1_3 : Int) (a1_4 : Int) (a1_5 : Int) (a1_6 : Bool) : Option (Bool) := if (l0_0.length : Int) = (l1_0.length : Int) then (offertoryref09_Same.l0 k 0 l0_0 a0_1 a0_2 a0_3 a0_4 a0_5 a0_6 l1_0 a1_1 a1_2 a1_3 a1_4 a1_5 a1_6) else (some false)
theorem offertoryref09_Same.mono_l : ∀ k, (∀ y0 y1 y2 y3 y4 y5 y6 y7 y8 y9 y10 y11 y12 y13 y14, LeO (offertoryref09_Same.l0 k y0 y1 y2 y3 y4 y5 y6 y7 y8 y9 y10 y11 y12 y13 y14) (offertoryref09_Same.l0 (k + 1) y0 y1 y2 y3 y4 y5 y6 y7 y8 y9 y10 y11 y12 y13 y14))
  | 0 => fun _ _ _ _ _ _ _ _ _ _ _ _ _ _ _ r h => by simp [offertoryref09_Same.l0] at h
  | k + 1 => by
    have ih0 := offertoryref09_Same.mono_l k
    · intro y0 y1 y2 y3 y4 y5 y6 y7 y8 y9 y10 y11 y12 y13 y14
      unfold offertoryref09_Same.l0
      repeat' first
      | (with_reducible exact ih0 _ _ _ _ _ _ _ _ _ _ _ _ _ _ _)
      | (with_reducible exact LeO.refl _)
      | (with_reducible exact LeO.none _)
      | (with_reducible refine LeO.ite ?_ ?_)
      | (with_reducible refine LeO.bind ?_ (fun _ => ?_))
      | exact ih0 _ _ _ _ _ _ _ _ _ _ _ _ _ _ _
      | exact LeO.none _
      | refine LeO.ite ?_ ?_
      | refine LeO.bind ?_ (fun _ => ?_)
theorem offertoryref09_Same.mono : ∀ a0 a1 a2 a3 a4 a5 a6 a7 a8 a9 a10 a11 a12 a13 k, LeO (offertoryref09_Same.f k a0 a1 a2 a3 a4 a5 a6 a7 a8 a9 a10 a11 a12 a13) (offertoryref09_Same.f (k + 1) a0 a1 a2 a3 a4 a5 a6 a7 a8 a9 a10 a11 a12 a13) := by
  intro a0 a1 a2 a3 a4 a5 a6 a7 a8 a9 a10 a11 a12 a13 k
  have ih0 := offertoryref09_Same.mono_l k
  unfold offertoryref09_Same.f
  repeat' first
      | (with_reducible exact ih0 _ _ _ _ _ _ _ _ _ _ _ _ _ _ _)
      | (with_reducible exact LeO.refl _)
      | (with_reducible exact LeO.none _)
      | (with_reducible refine LeO.ite ?_ ?_)
      | (with_reducible refine LeO.bind ?_ (fun _ => ?_))
      | exact ih0 _ _ _ _ _ _ _ _ _ _ _ _ _ _ _
      | exact LeO.none _
      | refine LeO.ite ?_ ?_
      | refine LeO.bind ?_ (fun _ => ?_)
set_option maxHeartbeats 8000000 in
set_option maxRecDepth 100000 in
theorem offertoryref09_Same.calls (k : Nat) (A0_0 : Option Addr) (c0_0 : Nat) (l0_0 : List Int) (a0_1 : Int) (a0_2 : Int) (a0_3 : Int) (a0_4 : Int) (a0_5 : Int) (a0_6 : Bool) (A1_0 : Option Addr) (c1_0 : Nat) (l1_0 : List Int) (a1_1 : Int) (a1_2 : Int) (a1_3 : Int) (a1_4 : Int) (a1_5 : Int) (a1_6 : Bool) (r : Bool) (w : World) (hr0_0 : Kd.C (Kd.int .i64) w A0_0 l0_0.length l0_0) (hc0_0 : l0_0.length ≤ c0_0) (hr1_0 : Kd.C (Kd.int .i64) w A1_0 l1_0.length l1_0) (hc1_0 : l1_0.length ≤ c1_0) (h : offertoryref09_Same.f k l0_0 a0_1 a0_2 a0_3 a0_4 a0_5 a0_6 l1_0 a1_1 a1_2 a1_3 a1_4 a1_5 a1_6 = some r) :
    Calls Try.prog 10 #[.agg #[.slice A0_0 l0_0.length c0_0, .int .i64 a0_1, .int .u64 a0_2, .int .u64 a0_3, .int .u64 a0_4, .int .u64 a0_5, .bool a0_6], .agg #[.slice A1_0 l1_0.length c1_0, .int .i64 a1_1, .int .u64 a1_2, .int .u64 a1_3, .int .u64 a1_4, .int .u64 a1_5, .bool a1_6]] w fun e w' => e = .returned (.bool r) ∧ Below w.heap.size w w' := by
  have hu27 := Try.underlying27
  have hu25 := Try.underlying25
  have HR0_0 := Aside0.mk hr0_0
  have HC0_0 := Aside0.mk hc0_0
  clear hr0_0 hc0_0
  have HR1_0 := Aside0.mk hr1_0
  have HC1_0 := Aside0.mk hc1_0
  clear hr1_0 hc1_0
  have HB := Aside0.mk (Below.refl w.heap.size w)
  have H : (if (l0_0.length : Int) = (l1_0.length : Int) then (offertoryref09_Same.l0 k 0 l0_0 a0_1 a0_2 a0_3 a0_4 a0_5 a0_6 l1_0 a1_1 a1_2 a1_3 a1_4 a1_5 a1_6) else (some false)) = some r := h
  clear h
  by_cases c3 : (l0_0.length : Int) = (l1_0.length : Int)
  · rw [if_pos c3] at H
    have c3b0 : ((l0_0.length : Int) == (l1_0.length : Int)) = true := beq_iff_eq.mpr c3
    have c3b1 : ((l0_0.length : Int) != (l1_0.length : Int)) = false := bne_eq_false_iff_eq.mpr c3
    have c3b2 : (l0_0.length == l1_0.length) = true := by first | simpa using c3 | (simp at c3 ⊢; omega)
    clear c3
    have H' := Aside0.mk H
    clear H
    go_enter Try.func10, Try.ntmps10
    go_wp2_with (first | ((with_reducible refine gate_dst (N := 2) rfl ?_); refine box_event ?hg (N := 2) ?hd (cs := #[.slice A0_0 l0_0.length c0_0, .int .i64 a0_1, .int .u64 a0_2, .int .u64 a0_3, .int .u64 a0_4, .int .u64 a0_5, .bool a0_6]) (t := 27) ?hr ?_; (case hd => rfl); (case hg => rfl); (case hr => first | (go_simp; done) | (go_simp; rfl)); intro gb164 hg w4 hbox hb; have n0_ := Aside0.mk (below_step (by repeat (first | (with_reducible first | exact HB.out | apply below_alloc | apply pw_below_drewN | apply below_drew1) | exact HB.out)) hb); have n1_ := Aside0.mk (hbox); have n2_ := Aside0.mk ((by rw [hg]; exact (below_size (by repeat (first | (with_reducible first | exact HB.out | apply below_alloc | apply pw_below_drewN | apply below_drew1) | exact HB.out))) : w.heap.size ≤ gb164)); have n3_ := Aside0.mk ((by rw [hg]; exact (below_size (by repeat (first | (with_reducible first | exact HB.out | apply below_alloc | apply pw_below_drewN | apply below_drew1) | exact HB.out))) : w.heap.size ≤ gb164)); clear HB; have HB := n0_; have BK164 := n1_; have GW164 := n2_; have GE164 := n3_; clear n0_ n1_ n2_ n3_; clear hb hbox hg) | ((with_reducible refine gate_dst (N := 3) rfl ?_); refine box_event ?hg (N := 3) ?hd (cs := #[.slice A1_0 l1_0.length c1_0, .int .i64 a1_1, .int .u64 a1_2, .int .u64 a1_3, .int .u64 a1_4, .int .u64 a1_5, .bool a1_6]) (t := 27) ?hr ?_; (case hd => rfl); (case hg => rfl); (case hr => first | (go_simp; done) | (go_simp; rfl)); intro gb165 hg w5 hbox hb; have n0_ := offertoryref09_Same.keepB BK164 hb; have n1_ := Aside0.mk (below_step (by repeat (first | (with_reducible first | exact HB.out | apply below_alloc | apply pw_below_drewN | apply below_drew1 | refine below_set ?_ GE164.out) | exact HB.out)) hb); have n2_ := Aside0.mk (hbox); have n3_ := Aside0.mk ((by rw [hg]; exact (below_size (by repeat (first | (with_reducible first | exact HB.out | apply below_alloc | apply pw_below_drewN | apply below_drew1 | refine below_set ?_ GE164.out) | exact HB.out))) : w.heap.size ≤ gb165)); have n4_ := Aside0.mk ((by rw [hg]; exact (below_size (by repeat (first | (with_reducible first | exact HB.out | apply below_alloc | apply pw_below_drewN | apply below_drew1 | refine below_set ?_ GE164.out) | exact HB.out))) : w.heap.size ≤ gb165)); have n5_ := offertoryref09_Same.neL BK164 hg; have n6_ := offertoryref09_Same.neG BK164 hg; clear BK164; clear HB; have BK164 := n0_; have HB := n1_; have BK165 := n2_; have GW165 := n3_; have GE165 := n4_; have NB164_165 := n5_; have NB165_164 := n6_; clear n0_ n1_ n2_ n3_ n4_ n5_ n6_; clear hb hbox hg; have hnb6 := NB164_165.out; have hnc6 := NB165_164.out; have hcz7_0 : w5.cell? ⟨gb164, 0, none⟩ = some (.slice A0_0 l0_0.length c0_0) := (blk_cell BK164.out 0).trans rfl; have hcz7_1 : w5.cell? ⟨gb164, 1, none⟩ = some (.int .i64 a0_1) := (blk_cell BK164.out 1).trans rfl; have hcz7_2 : w5.cell? ⟨gb164, 2, none⟩ = some (.int .u64 a0_2) := (blk_cell BK164.out 2).trans rfl; have hcz7_3 : w5.cell? ⟨gb164, 3, none⟩ = some (.int .u64 a0_3) := (blk_cell BK164.out 3).trans rfl; have hcz7_4 : w5.cell? ⟨gb164, 4, none⟩ = some (.int .u64 a0_4) := (blk_cell BK164.out 4).trans rfl; have hcz7_5 : w5.cell? ⟨gb164, 5, none⟩ = some (.int .u64 a0_5) := (blk_cell BK164.out 5).trans rfl; have hcz7_6 : w5.cell? ⟨gb164, 6, none⟩ = some (.bool a0_6) := (blk_cell BK164.out 6).trans rfl; have hfz7_0 := blk_frozen BK164.out 0; have hfz7_1 := blk_frozen BK164.out 1; have hfz7_2 := blk_frozen BK164.out 2; have hfz7_3 := blk_frozen BK164.out 3; have hfz7_4 := blk_frozen BK164.out 4; have hfz7_5 := blk_frozen BK164.out 5; have hfz7_6 := blk_frozen BK164.out 6; have hcz8_0 : w5.cell? ⟨gb165, 0, none⟩ = some (.slice A1_0 l1_0.length c1_0) := (blk_cell BK165.out 0).trans rfl; have hcz8_1 : w5.cell? ⟨gb165, 1, none⟩ = some (.int .i64 a1_1) := (blk_cell BK165.out 1).trans rfl; have hcz8_2 : w5.cell? ⟨gb165, 2, none⟩ = some (.int .u64 a1_2) := (blk_cell BK165.out 2).trans rfl; have hcz8_3 : w5.cell? ⟨gb165, 3, none⟩ = some (.int .u64 a1_3) := (blk_cell BK165.out 3).trans rfl; have hcz8_4 : w5.cell? ⟨gb165, 4, none⟩ = some (.int .u64 a1_4) := (blk_cell BK165.out 4).trans rfl; have hcz8_5 : w5.cell? ⟨gb165, 5, none⟩ = some (.int .u64 a1_5) := (blk_cell BK165.out 5).trans rfl; have hcz8_6 : w5.cell? ⟨gb165, 6, none⟩ = some (.bool a1_6) := (blk_cell BK165.out 6).trans rfl; have hfz8_0 := blk_frozen BK165.out 0; have hfz8_1 := blk_frozen BK165.out 1; have hfz8_2 := blk_frozen BK165.out 2; have hfz8_3 := blk_frozen BK165.out 3; have hfz8_4 := blk_frozen BK165.out 4; have hfz8_5 := blk_frozen BK165.out 5; have hfz8_6 := blk_frozen BK165.out 6))
    repeat (go_quiet (first | ((with_reducible refine gate_dst (N := 2) rfl ?_); refine box_event ?hg (N := 2) ?hd (cs := #[.slice A0_0 l0_0.length c0_0, .int .i64 a0_1, .int .u64 a0_2, .int .u64 a0_3, .int .u64 a0_4, .int .u64 a0_5, .bool a0_6]) (t := 27) ?hr ?_; (case hd => rfl); (case hg => rfl); (case hr => first | (go_simp; done) | (go_simp; rfl)); intro gb164 hg w4 hbox hb; have n0_ := Aside0.mk (below_step (by repeat (first | (with_reducible first | exact HB.out | apply below_alloc | apply pw_below_drewN | apply below_drew1) | exact HB.out)) hb); have n1_ := Aside0.mk (hbox); have n2_ := Aside0.mk ((by rw [hg]; exact (below_size (by repeat (first | (with_reducible first | exact HB.out | apply below_alloc | apply pw_below_drewN | apply below_drew1) | exact HB.out))) : w.heap.size ≤ gb164)); have n3_ := Aside0.mk ((by rw [hg]; exact (below_size (by repeat (first | (with_reducible first | exact HB.out | apply below_alloc | apply pw_below_drewN | apply below_drew1) | exact HB.out))) : w.heap.size ≤ gb164)); clear HB; have HB := n0_; have BK164 := n1_; have GW164 := n2_; have GE164 := n3_; clear n0_ n1_ n2_ n3_; clear hb hbox hg) | ((with_reducible refine gate_dst (N := 3) rfl ?_); refine box_event ?hg (N := 3) ?hd (cs := #[.slice A1_0 l1_0.length c1_0, .int .i64 a1_1, .int .u64 a1_2, .int .u64 a1_3, .int .u64 a1_4, .int .u64 a1_5, .bool a1_6]) (t := 27) ?hr ?_; (case hd => rfl); (case hg => rfl); (case hr => first | (go_simp; done) | (go_simp; rfl)); intro gb165 hg w5 hbox hb; have n0_ := offertoryref09_Same.keepB BK164 hb; have n1_ := Aside0.mk (below_step (by repeat (first | (with_reducible first | exact HB.out | apply below_alloc | apply pw_below_drewN | apply below_drew1 | refine below_set ?_ GE164.out) | exact HB.out)) hb); have n2_ := Aside0.mk (hbox); have n3_ := Aside0.mk ((by rw [hg]; exact (below_size (by repeat (first | (with_reducible first | exact HB.out | apply below_alloc | apply pw_below_drewN | apply below_drew1 | refine below_set ?_ GE164.out) | exact HB.out))) : w.heap.size ≤ gb165)); have n4_ := Aside0.mk ((by rw [hg]; exact (below_size (by repeat (first | (with_reducible first | exact HB.out | apply below_alloc | apply pw_below_drewN | apply below_drew1 | refine below_set ?_ GE164.out) | exact HB.out))) : w.heap.size ≤ gb165)); have n5_ := offertoryref09_Same.neL BK164 hg; have n6_ := offertoryref09_Same.neG BK164 hg; clear BK164; clear HB; have BK164 := n0_; have HB := n1_; have BK165 := n2_; have GW165 := n3_; have GE165 := n4_; have NB164_165 := n5_; have NB165_164 := n6_; clear n0_ n1_ n2_ n3_ n4_ n5_ n6_; clear hb hbox hg; have hnb6 := NB164_165.out; have hnc6 := NB165_164.out; have hcz7_0 : w5.cell? ⟨gb164, 0, none⟩ = some (.slice A0_0 l0_0.length c0_0) := (blk_cell BK164.out 0).trans rfl; have hcz7_1 : w5.cell? ⟨gb164, 1, none⟩ = some (.int .i64 a0_1) := (blk_cell BK164.out 1).trans rfl; have hcz7_2 : w5.cell? ⟨gb164, 2, none⟩ = some (.int .u64 a0_2) := (blk_cell BK164.out 2).trans rfl; have hcz7_3 : w5.cell? ⟨gb164, 3, none⟩ = some (.int .u64 a0_3) := (blk_cell BK164.out 3).trans rfl; have hcz7_4 : w5.cell? ⟨gb164, 4, none⟩ = some (.int .u64 a0_4) := (blk_cell BK164.out 4).trans rfl; have hcz7_5 : w5.cell? ⟨gb164, 5, none⟩ = some (.int .u64 a0_5) := (blk_cell BK164.out 5).trans rfl; have hcz7_6 : w5.cell? ⟨gb164, 6, none⟩ = some (.bool a0_6) := (blk_cell BK164.out 6).trans rfl; have hfz7_0 := blk_frozen BK164.out 0; have hfz7_1 := blk_frozen BK164.out 1; have hfz7_2 := blk_frozen BK164.out 2; have hfz7_3 := blk_frozen BK164.out 3; have hfz7_4 := blk_frozen BK164.out 4; have hfz7_5 := blk_frozen BK164.out 5; have hfz7_6 := blk_frozen BK164.out 6; have hcz8_0 : w5.cell? ⟨gb165, 0, none⟩ = some (.slice A1_0 l1_0.length c1_0) := (blk_cell BK165.out 0).trans rfl; have hcz8_1 : w5.cell? ⟨gb165, 1, none⟩ = some (.int .i64 a1_1) := (blk_cell BK165.out 1).trans rfl; have hcz8_2 : w5.cell? ⟨gb165, 2, none⟩ = some (.int .u64 a1_2) := (blk_cell BK165.out 2).trans rfl; have hcz8_3 : w5.cell? ⟨gb165, 3, none⟩ = some (.int .u64 a1_3) := (blk_cell BK165.out 3).trans rfl; have hcz8_4 : w5.cell? ⟨gb165, 4, none⟩ = some (.int .u64 a1_4) := (blk_cell BK165.out 4).trans rfl; have hcz8_5 : w5.cell? ⟨gb165, 5, none⟩ = some (.int .u64 a1_5) := (blk_cell BK165.out 5).trans rfl; have hcz8_6 : w5.cell? ⟨gb165, 6, none⟩ = some (.bool a1_6) := (blk_cell BK165.out 6).trans rfl; have hfz8_0 := blk_frozen BK165.out 0; have hfz8_1 := blk_frozen BK165.out 1; have hfz8_2 := blk_frozen BK165.out 2; have hfz8_3 := blk_frozen BK165.out 3; have hfz8_4 := blk_frozen BK165.out 4; have hfz8_5 := blk_frozen BK165.out 5; have hfz8_6 := blk_frozen BK165.out 6)); try go_wp2_with (first | ((with_reducible refine gate_dst (N := 2) rfl ?_); refine box_event ?hg (N := 2) ?hd (cs := #[.slice A0_0 l0_0.length c0_0, .int .i64 a0_1, .int .u64 a0_2, .int .u64 a0_3, .int .u64 a0_4, .int .u64 a0_5, .bool a0_6]) (t := 27) ?hr ?_; (case hd => rfl); (case hg => rfl); (case hr => first | (go_simp; done) | (go_simp; rfl)); intro gb164 hg w4 hbox hb; have n0_ := Aside0.mk (below_step (by repeat (first | (with_reducible first | exact HB.out | apply below_alloc | apply pw_below_drewN | apply below_drew1) | exact HB.out)) hb); have n1_ := Aside0.mk (hbox); have n2_ := Aside0.mk ((by rw [hg]; exact (below_size (by repeat (first | (with_reducible first | exact HB.out | apply below_alloc | apply pw_below_drewN | apply below_drew1) | exact HB.out))) : w.heap.size ≤ gb164)); have n3_ := Aside0.mk ((by rw [hg]; exact (below_size (by repeat (first | (with_reducible first | exact HB.out | apply below_alloc | apply pw_below_drewN | apply below_drew1) | exact HB.out))) : w.heap.size ≤ gb164)); clear HB; have HB := n0_; have BK164 := n1_; have GW164 := n2_; have GE164 := n3_; clear n0_ n1_ n2_ n3_; clear hb hbox hg) | ((with_reducible refine gate_dst (N := 3) rfl ?_); refine box_event ?hg (N := 3) ?hd (cs := #[.slice A1_0 l1_0.length c1_0, .int .i64 a1_1, .int .u64 a1_2, .int .u64 a1_3, .int .u64 a1_4, .int .u64 a1_5, .bool a1_6]) (t := 27) ?hr ?_; (case hd => rfl); (case hg => rfl); (case hr => first | (go_simp; done) | (go_simp; rfl)); intro gb165 hg w5 hbox hb; have n0_ := offertoryref09_Same.keepB BK164 hb; have n1_ := Aside0.mk (below_step (by repeat (first | (with_reducible first | exact HB.out | apply below_alloc | apply pw_below_drewN | apply below_drew1 | refine below_set ?_ GE164.out) | exact HB.out)) hb); have n2_ := Aside0.mk (hbox); have n3_ := Aside0.mk ((by rw [hg]; exact (below_size (by repeat (first | (with_reducible first | exact HB.out | apply below_alloc | apply pw_below_drewN | apply below_drew1 | refine below_set ?_ GE164.out) | exact HB.out))) : w.heap.size ≤ gb165)); have n4_ := Aside0.mk ((by rw [hg]; exact (below_size (by repeat (first | (with_reducible first | exact HB.out | apply below_alloc | apply pw_below_drewN | apply below_drew1 | refine below_set ?_ GE164.out) | exact HB.out))) : w.heap.size ≤ gb165)); have n5_ := offertoryref09_Same.neL BK164 hg; have n6_ := offertoryref09_Same.neG BK164 hg; clear BK164; clear HB; have BK164 := n0_; have HB := n1_; have BK165 := n2_; have GW165 := n3_; have GE165 := n4_; have NB164_165 := n5_; have NB165_164 := n6_; clear n0_ n1_ n2_ n3_ n4_ n5_ n6_; clear hb hbox hg; have hnb6 := NB164_165.out; have hnc6 := NB165_164.out; have hcz7_0 : w5.cell? ⟨gb164, 0, none⟩ = some (.slice A0_0 l0_0.length c0_0) := (blk_cell BK164.out 0).trans rfl; have hcz7_1 : w5.cell? ⟨gb164, 1, none⟩ = some (.int .i64 a0_1) := (blk_cell BK164.out 1).trans rfl; have hcz7_2 : w5.cell? ⟨gb164, 2, none⟩ = some (.int .u64 a0_2) := (blk_cell BK164.out 2).trans rfl; have hcz7_3 : w5.cell? ⟨gb164, 3, none⟩ = some (.int .u64 a0_3) := (blk_cell BK164.out 3).trans rfl; have hcz7_4 : w5.cell? ⟨gb164, 4, none⟩ = some (.int .u64 a0_4) := (blk_cell BK164.out 4).trans rfl; have hcz7_5 : w5.cell? ⟨gb164, 5, none⟩ = some (.int .u64 a0_5) := (blk_cell BK164.out 5).trans rfl; have hcz7_6 : w5.cell? ⟨gb164, 6, none⟩ = some (.bool a0_6) := (blk_cell BK164.out 6).trans rfl; have hfz7_0 := blk_frozen BK164.out 0; have hfz7_1 := blk_frozen BK164.out 1; have hfz7_2 := blk_frozen BK164.out 2; have hfz7_3 := blk_frozen BK164.out 3; have hfz7_4 := blk_frozen BK164.out 4; have hfz7_5 := blk_frozen BK164.out 5; have hfz7_6 := blk_frozen BK164.out 6; have hcz8_0 : w5.cell? ⟨gb165, 0, none⟩ = some (.slice A1_0 l1_0.length c1_0) := (blk_cell BK165.out 0).trans rfl; have hcz8_1 : w5.cell? ⟨gb165, 1, none⟩ = some (.int .i64 a1_1) := (blk_cell BK165.out 1).trans rfl; have hcz8_2 : w5.cell? ⟨gb165, 2, none⟩ = some (.int .u64 a1_2) := (blk_cell BK165.out 2).trans rfl; have hcz8_3 : w5.cell? ⟨gb165, 3, none⟩ = some (.int .u64 a1_3) := (blk_cell BK165.out 3).trans rfl; have hcz8_4 : w5.cell? ⟨gb165, 4, none⟩ = some (.int .u64 a1_4) := (blk_cell BK165.out 4).trans rfl; have hcz8_5 : w5.cell? ⟨gb165, 5, none⟩ = some (.int .u64 a1_5) := (blk_cell BK165.out 5).trans rfl; have hcz8_6 : w5.cell? ⟨gb165, 6, none⟩ = some (.bool a1_6) := (blk_cell BK165.out 6).trans rfl; have hfz8_0 := blk_frozen BK165.out 0; have hfz8_1 := blk_frozen BK165.out 1; have hfz8_2 := blk_frozen BK165.out 2; have hfz8_3 := blk_frozen BK165.out 3; have hfz8_4 := blk_frozen BK165.out 4; have hfz8_5 := blk_frozen BK165.out 5; have hfz8_6 := blk_frozen BK165.out 6)))
    go_loopg [5] k (fun kq v5 w' => ∃ (x5_1 : Int), v5 = .int .i64 x5_1 ∧ Aside0 (offertoryref09_Same.l0 kq x5_1 l0_0 a0_1 a0_2 a0_3 a0_4 a0_5 a0_6 l1_0 a1_1 a1_2 a1_3 a1_4 a1_5 a1_6 = some r) ∧ Aside0 (kq ≤ k) ∧ Aside0 (w'.heap[gb164]? = some (.cells #[(.slice A0_0 l0_0.length c0_0), .int .i64 a0_1, .int .u64 a0_2, .int .u64 a0_3, .int .u64 a0_4, .int .u64 a0_5, .bool a0_6] 27 (0, 0))) ∧ Aside0 (w'.heap[gb165]? = some (.cells #[(.slice A1_0 l1_0.length c1_0), .int .i64 a1_1, .int .u64 a1_2, .int .u64 a1_3, .int .u64 a1_4, .int .u64 a1_5, .bool a1_6] 27 (0, 0))) ∧ Aside0 (Below w.heap.size w w'))
    case atStart => exact ⟨(0), (by first | rfl | (simp; done) | (simp [*]; done)), H', ⟨Nat.le_refl _⟩, ⟨by (with_reducible repeat (first | refine blk_drewN ?_ _ | refine blk_drew ?_ | refine blk_alloc ?_ _)); exact BK164.out⟩, ⟨by (with_reducible repeat (first | refine blk_drewN ?_ _ | refine blk_drew ?_ | refine blk_alloc ?_ _)); exact BK165.out⟩, ⟨by repeat (first | (with_reducible first | exact HB.out | apply below_alloc | apply pw_below_drewN | apply below_drew1 | refine below_set ?_ GE164.out | refine below_set ?_ GE165.out) | exact HB.out)⟩⟩
    case round =>
      clear H'
      try clear c1
      try clear p2
      try clear c3
      try clear c3b0
      try clear c3b1
      try clear c3b2
      try clear c6
      try clear hcz7_0
      try clear hcz7_1
      try clear hcz7_2
      try clear hcz7_3
      try clear hcz7_4
      try clear hcz7_5
      try clear hcz7_6
      try clear hcz8_0
      try clear hcz8_1
      try clear hcz8_2
      try clear hcz8_3
      try clear hcz8_4
      try clear hcz8_5
      try clear hcz8_6
      try clear hfz7_0
      try clear hfz7_1
      try clear hfz7_2
      try clear hfz7_3
      try clear hfz7_4
      try clear hfz7_5
      try clear hfz7_6
      try clear hfz8_0
      try clear hfz8_1
      try clear hfz8_2
      try clear hfz8_3
      try clear hfz8_4
      try clear hfz8_5
      try clear hfz8_6
      obtain ⟨x5_1, rfl, HA, HK1, BK164, BK165, HB⟩ := hrel
      cases gk with
      | zero => exact absurd HA.out (by simp [offertoryref09_Same.l0])
      | succ k1 =>
        have H := HA.out
        clear HA
        simp only [offertoryref09_Same.l0] at H
        by_cases c9 : x5_1 < (l0_0.length : Int)
        · rw [if_pos c9] at H
          have c9b0 : decide (x5_1 < (l0_0.length : Int)) = true := decide_eq_true c9
          clear c9
          by_cases c10 : 0 ≤ x5_1
          · rw [if_pos c10] at H
            have c10b0 : decide (0 ≤ x5_1) = true := decide_eq_true c10
            clear c10
            by_cases c11 : x5_1 < (l1_0.length : Int)
            · rw [if_pos c11] at H
              have c11b0 : decide (x5_1 < (l1_0.length : Int)) = true := decide_eq_true c11
              clear c11
              by_cases c12 : (rd l0_0 x5_1) = (rd l1_0 x5_1)
              · rw [if_pos c12] at H
                have c12b0 : ((rd l0_0 x5_1) == (rd l1_0 x5_1)) = true := beq_iff_eq.mpr c12
                have c12b1 : ((rd l0_0 x5_1) != (rd l1_0 x5_1)) = false := bne_eq_false_iff_eq.mpr c12
                clear c12
                have H' := Aside0.mk H
                clear H
                have hnb13 := NB164_165.out
                have hnc13 := NB165_164.out
                have hcz14_0 : wr.cell? ⟨gb164, 0, none⟩ = some (.slice A0_0 l0_0.length c0_0) := (blk_cell BK164.out 0).trans rfl
                have hcz14_1 : wr.cell? ⟨gb164, 1, none⟩ = some (.int .i64 a0_1) := (blk_cell BK164.out 1).trans rfl
                have hcz14_2 : wr.cell? ⟨gb164, 2, none⟩ = some (.int .u64 a0_2) := (blk_cell BK164.out 2).trans rfl
                have hcz14_3 : wr.cell? ⟨gb164, 3, none⟩ = some (.int .u64 a0_3) := (blk_cell BK164.out 3).trans rfl
                have hcz14_4 : wr.cell? ⟨gb164, 4, none⟩ = some (.int .u64 a0_4) := (blk_cell BK164.out 4).trans rfl
                have hcz14_5 : wr.cell? ⟨gb164, 5, none⟩ = some (.int .u64 a0_5) := (blk_cell BK164.out 5).trans rfl
                have hcz14_6 : wr.cell? ⟨gb164, 6, none⟩ = some (.bool a0_6) := (blk_cell BK164.out 6).trans rfl
                have hfz14_0 := blk_frozen BK164.out 0
                have hfz14_1 := blk_frozen BK164.out 1
                have hfz14_2 := blk_frozen BK164.out 2
                have hfz14_3 := blk_frozen BK164.out 3
                have hfz14_4 := blk_frozen BK164.out 4
                have hfz14_5 := blk_frozen BK164.out 5
                have hfz14_6 := blk_frozen BK164.out 6
                have p166 : 0 ≤ (x5_1 : Int) := of_decide_eq_true (by first | (with_reducible assumption) | assumption)
                have q166 : x5_1 < (l0_0.length : Int) := of_decide_eq_true (by first | (with_reducible assumption) | assumption)
                obtain ⟨ad166, e166, hx166_0⟩ := Kd.at_int HR0_0.out x5_1 p166 q166
                cases e166
                replace hx166_0 := (HB.out.cell (World.block_lt_of_cell? w _ hx166_0)).trans hx166_0
                replace p166 := eq_true p166
                replace q166 := eq_true q166
                have hcz15_0 : wr.cell? ⟨gb165, 0, none⟩ = some (.slice A1_0 l1_0.length c1_0) := (blk_cell BK165.out 0).trans rfl
                have hcz15_1 : wr.cell? ⟨gb165, 1, none⟩ = some (.int .i64 a1_1) := (blk_cell BK165.out 1).trans rfl
                have hcz15_2 : wr.cell? ⟨gb165, 2, none⟩ = some (.int .u64 a1_2) := (blk_cell BK165.out 2).trans rfl
                have hcz15_3 : wr.cell? ⟨gb165, 3, none⟩ = some (.int .u64 a1_3) := (blk_cell BK165.out 3).trans rfl
                have hcz15_4 : wr.cell? ⟨gb165, 4, none⟩ = some (.int .u64 a1_4) := (blk_cell BK165.out 4).trans rfl
                have hcz15_5 : wr.cell? ⟨gb165, 5, none⟩ = some (.int .u64 a1_5) := (blk_cell BK165.out 5).trans rfl
                have hcz15_6 : wr.cell? ⟨gb165, 6, none⟩ = some (.bool a1_6) := (blk_cell BK165.out 6).trans rfl
                have hfz15_0 := blk_frozen BK165.out 0
                have hfz15_1 := blk_frozen BK165.out 1
                have hfz15_2 := blk_frozen BK165.out 2
                have hfz15_3 := blk_frozen BK165.out 3
                have hfz15_4 := blk_frozen BK165.out 4
                have hfz15_5 := blk_frozen BK165.out 5
                have hfz15_6 := blk_frozen BK165.out 6
                have p167 : 0 ≤ (x5_1 : Int) := of_decide_eq_true (by first | (with_reducible assumption) | assumption)
                have q167 : x5_1 < (l1_0.length : Int) := of_decide_eq_true (by first | (with_reducible assumption) | assumption)
                obtain ⟨ad167, e167, hx167_0⟩ := Kd.at_int HR1_0.out x5_1 p167 q167
                cases e167
                replace hx167_0 := (HB.out.cell (World.block_lt_of_cell? w _ hx167_0)).trans hx167_0
                replace p167 := eq_true p167
                replace q167 := eq_true q167
                go_wp2
                repeat (go_quiet (fail); try go_wp2)
                go_roundg k1
                case measure => have := HK1.out; omega
                case rel => exact ⟨(wrap64 (x5_1 + 1)), (by first | rfl | (simp; done) | (simp [*]; done)), H', ⟨by have := HK1.out; omega⟩, ⟨by (with_reducible repeat (first | refine blk_drewN ?_ _ | refine blk_drew ?_ | refine blk_alloc ?_ _)); exact BK164.out⟩, ⟨by (with_reducible repeat (first | refine blk_drewN ?_ _ | refine blk_drew ?_ | refine blk_alloc ?_ _)); exact BK165.out⟩, ⟨by repeat (first | (with_reducible first | exact HB.out | apply below_alloc | apply pw_below_drewN | apply below_drew1 | refine below_set ?_ GE164.out | refine below_set ?_ GE165.out) | exact HB.out)⟩⟩
              · rw [if_neg c12] at H
                have c12b0 : ((rd l0_0 x5_1) == (rd l1_0 x5_1)) = false := beq_eq_false_iff_ne.mpr c12
                have c12b1 : ((rd l0_0 x5_1) != (rd l1_0 x5_1)) = true := bne_iff_ne.mpr c12
                obtain rfl := Option.some.inj H
                have hnb16 := NB164_165.out
                have hnc16 := NB165_164.out
                have hcz17_0 : wr.cell? ⟨gb164, 0, none⟩ = some (.slice A0_0 l0_0.length c0_0) := (blk_cell BK164.out 0).trans rfl
                have hcz17_1 : wr.cell? ⟨gb164, 1, none⟩ = some (.int .i64 a0_1) := (blk_cell BK164.out 1).trans rfl
                have hcz17_2 : wr.cell? ⟨gb164, 2, none⟩ = some (.int .u64 a0_2) := (blk_cell BK164.out 2).trans rfl
                have hcz17_3 : wr.cell? ⟨gb164, 3, none⟩ = some (.int .u64 a0_3) := (blk_cell BK164.out 3).trans rfl
                have hcz17_4 : wr.cell? ⟨gb164, 4, none⟩ = some (.int .u64 a0_4) := (blk_cell BK164.out 4).trans rfl
                have hcz17_5 : wr.cell? ⟨gb164, 5, none⟩ = some (.int .u64 a0_5) := (blk_cell BK164.out 5).trans rfl
                have hcz17_6 : wr.cell? ⟨gb164, 6, none⟩ = some (.bool a0_6) := (blk_cell BK164.out 6).trans rfl
                have hfz17_0 := blk_frozen BK164.out 0
                have hfz17_1 := blk_frozen BK164.out 1
                have hfz17_2 := blk_frozen BK164.out 2
                have hfz17_3 := blk_frozen BK164.out 3
                have hfz17_4 := blk_frozen BK164.out 4
                have hfz17_5 := blk_frozen BK164.out 5
                have hfz17_6 := blk_frozen BK164.out 6
                have p166 : 0 ≤ (x5_1 : Int) := of_decide_eq_true (by first | (with_reducible assumption) | assumption)
                have q166 : x5_1 < (l0_0.length : Int) := of_decide_eq_true (by first | (with_reducible assumption) | assumption)
                obtain ⟨ad166, e166, hx166_0⟩ := Kd.at_int HR0_0.out x5_1 p166 q166
                cases e166
                replace hx166_0 := (HB.out.cell (World.block_lt_of_cell? w _ hx166_0)).trans hx166_0
                replace p166 := eq_true p166
                replace q166 := eq_true q166
                have hcz18_0 : wr.cell? ⟨gb165, 0, none⟩ = some (.slice A1_0 l1_0.length c1_0) := (blk_cell BK165.out 0).trans rfl
                have hcz18_1 : wr.cell? ⟨gb165, 1, none⟩ = some (.int .i64 a1_1) := (blk_cell BK165.out 1).trans rfl
                have hcz18_2 : wr.cell? ⟨gb165, 2, none⟩ = some (.int .u64 a1_2) := (blk_cell BK165.out 2).trans rfl
                have hcz18_3 : wr.cell? ⟨gb165, 3, none⟩ = some (.int .u64 a1_3) := (blk_cell BK165.out 3).trans rfl
                have hcz18_4 : wr.cell? ⟨gb165, 4, none⟩ = some (.int .u64 a1_4) := (blk_cell BK165.out 4).trans rfl
                have hcz18_5 : wr.cell? ⟨gb165, 5, none⟩ = some (.int .u64 a1_5) := (blk_cell BK165.out 5).trans rfl
                have hcz18_6 : wr.cell? ⟨gb165, 6, none⟩ = some (.bool a1_6) := (blk_cell BK165.out 6).trans rfl
                have hfz18_0 := blk_frozen BK165.out 0
                have hfz18_1 := blk_frozen BK165.out 1
                have hfz18_2 := blk_frozen BK165.out 2
                have hfz18_3 := blk_frozen BK165.out 3
                have hfz18_4 := blk_frozen BK165.out 4
                have hfz18_5 := blk_frozen BK165.out 5
                have hfz18_6 := blk_frozen BK165.out 6
                have p167 : 0 ≤ (x5_1 : Int) := of_decide_eq_true (by first | (with_reducible assumption) | assumption)
                have q167 : x5_1 < (l1_0.length : Int) := of_decide_eq_true (by first | (with_reducible assumption) | assumption)
                obtain ⟨ad167, e167, hx167_0⟩ := Kd.at_int HR1_0.out x5_1 p167 q167
                cases e167
                replace hx167_0 := (HB.out.cell (World.block_lt_of_cell? w _ hx167_0)).trans hx167_0
                replace p167 := eq_true p167
                replace q167 := eq_true q167
                go_wp2
                repeat (go_quiet (fail); try go_wp2)
                go_ret
                exact ⟨by first | rfl | (simp [errW_none, errW_some] <;> rfl) | (simp [*, errW_none, errW_some] <;> rfl), by repeat (first | (with_reducible first | exact HB.out | apply below_alloc | apply pw_below_drewN | apply below_drew1 | refine below_set ?_ GE164.out | refine below_set ?_ GE165.out) | exact HB.out)⟩
            · rw [if_neg c11] at H
              exact absurd H (by simp)
          · rw [if_neg c10] at H
            exact absurd H (by simp)
        · rw [if_neg c9] at H
          have c9b0 : decide (x5_1 < (l0_0.length : Int)) = false := decide_eq_false c9
          clear c9
          by_cases c19 : a0_1 = a1_1
          · rw [if_pos c19] at H
            have c19b0 : (a0_1 == a1_1) = true := beq_iff_eq.mpr c19
            have c19b1 : (a0_1 != a1_1) = false := bne_eq_false_iff_eq.mpr c19
            clear c19
            by_cases c20 : (a0_2 == a1_2 && (a0_3 == a1_3)) = true
            · rw [if_pos c20] at H
              have c20b0 : (a0_2 == a1_2 && (a0_3 == a1_3)) = true := c20
              (try (have c20b1 : decide (a0_2 = a1_2 && (a0_3 == a1_3)) = true := by first | decide | simpa using c20))
              (try (have c20b2 : (a0_2 == a1_2 && (a0_3 == a1_3)) = true := by first | decide | simpa using c20))
              clear c20
              by_cases c21 : (a0_4 == a1_4 && (a0_5 == a1_5)) = true
              · rw [if_pos c21] at H
                have c21b0 : (a0_4 == a1_4 && (a0_5 == a1_5)) = true := c21
                (try (have c21b1 : decide (a0_4 = a1_4 && (a0_5 == a1_5)) = true := by first | decide | simpa using c21))
                (try (have c21b2 : (a0_4 == a1_4 && (a0_5 == a1_5)) = true := by first | decide | simpa using c21))
                clear c21
                obtain rfl := Option.some.inj H
                have hnb22 := NB164_165.out
                have hnc22 := NB165_164.out
                have hcz23_0 : wr.cell? ⟨gb164, 0, none⟩ = some (.slice A0_0 l0_0.length c0_0) := (blk_cell BK164.out 0).trans rfl
                have hcz23_1 : wr.cell? ⟨gb164, 1, none⟩ = some (.int .i64 a0_1) := (blk_cell BK164.out 1).trans rfl
                have hcz23_2 : wr.cell? ⟨gb164, 2, none⟩ = some (.int .u64 a0_2) := (blk_cell BK164.out 2).trans rfl
                have hcz23_3 : wr.cell? ⟨gb164, 3, none⟩ = some (.int .u64 a0_3) := (blk_cell BK164.out 3).trans rfl
                have hcz23_4 : wr.cell? ⟨gb164, 4, none⟩ = some (.int .u64 a0_4) := (blk_cell BK164.out 4).trans rfl
                have hcz23_5 : wr.cell? ⟨gb164, 5, none⟩ = some (.int .u64 a0_5) := (blk_cell BK164.out 5).trans rfl
                have hcz23_6 : wr.cell? ⟨gb164, 6, none⟩ = some (.bool a0_6) := (blk_cell BK164.out 6).trans rfl
                have hfz23_0 := blk_frozen BK164.out 0
                have hfz23_1 := blk_frozen BK164.out 1
                have hfz23_2 := blk_frozen BK164.out 2
                have hfz23_3 := blk_frozen BK164.out 3
                have hfz23_4 := blk_frozen BK164.out 4
                have hfz23_5 := blk_frozen BK164.out 5
                have hfz23_6 := blk_frozen BK164.out 6
                have hcz24_0 : wr.cell? ⟨gb165, 0, none⟩ = some (.slice A1_0 l1_0.length c1_0) := (blk_cell BK165.out 0).trans rfl
                have hcz24_1 : wr.cell? ⟨gb165, 1, none⟩ = some (.int .i64 a1_1) := (blk_cell BK165.out 1).trans rfl
                have hcz24_2 : wr.cell? ⟨gb165, 2, none⟩ = some (.int .u64 a1_2) := (blk_cell BK165.out 2).trans rfl
                have hcz24_3 : wr.cell? ⟨gb165, 3, none⟩ = some (.int .u64 a1_3) := (blk_cell BK165.out 3).trans rfl
                have hcz24_4 : wr.cell? ⟨gb165, 4, none⟩ = some (.int .u64 a1_4) := (blk_cell BK165.out 4).trans rfl
                have hcz24_5 : wr.cell? ⟨gb165, 5, none⟩ = some (.int .u64 a1_5) := (blk_cell BK165.out 5).trans rfl
                have hcz24_6 : wr.cell? ⟨gb165, 6, none⟩ = some (.bool a1_6) := (blk_cell BK165.out 6).trans rfl
                have hfz24_0 := blk_frozen BK165.out 0
                have hfz24_1 := blk_frozen BK165.out 1
                have hfz24_2 := blk_frozen BK165.out 2
                have hfz24_3 := blk_frozen BK165.out 3
                have hfz24_4 := blk_frozen BK165.out 4
                have hfz24_5 := blk_frozen BK165.out 5
                have hfz24_6 := blk_frozen BK165.out 6
                go_wp2
                repeat (go_quiet (fail); try go_wp2)
                go_ret
                exact ⟨by first | rfl | (simp [errW_none, errW_some] <;> rfl) | (simp [*, errW_none, errW_some] <;> rfl), by repeat (first | (with_reducible first | exact HB.out | apply below_alloc | apply pw_below_drewN | apply below_drew1 | refine below_set ?_ GE164.out | refine below_set ?_ GE165.out) | exact HB.out)⟩
              · rw [if_neg c21] at H
                have c21b0 : (a0_4 == a1_4 && (a0_5 == a1_5)) = false := by simpa using c21
                (try (have c21b1 : decide (a0_4 = a1_4 && (a0_5 == a1_5)) = false := by first | decide | simpa using c21))
                (try (have c21b2 : (a0_4 == a1_4 && (a0_5 == a1_5)) = false := by first | decide | simpa using c21))
                (try (have c21b3 : ¬ (a0_4 = a1_4 && (a0_5 == a1_5)) := by simpa using c21))
                clear c21
                obtain rfl := Option.some.inj H
                have hnb25 := NB164_165.out
                have hnc25 := NB165_164.out
                have hcz26_0 : wr.cell? ⟨gb164, 0, none⟩ = some (.slice A0_0 l0_0.length c0_0) := (blk_cell BK164.out 0).trans rfl
                have hcz26_1 : wr.cell? ⟨gb164, 1, none⟩ = some (.int .i64 a0_1) := (blk_cell BK164.out 1).trans rfl
                have hcz26_2 : wr.cell? ⟨gb164, 2, none⟩ = some (.int .u64 a0_2) := (blk_cell BK164.out 2).trans rfl
                have hcz26_3 : wr.cell? ⟨gb164, 3, none⟩ = some (.int .u64 a0_3) := (blk_cell BK164.out 3).trans rfl
                have hcz26_4 : wr.cell? ⟨gb164, 4, none⟩ = some (.int .u64 a0_4) := (blk_cell BK164.out 4).trans rfl
                have hcz26_5 : wr.cell? ⟨gb164, 5, none⟩ = some (.int .u64 a0_5) := (blk_cell BK164.out 5).trans rfl
                have hcz26_6 : wr.cell? ⟨gb164, 6, none⟩ = some (.bool a0_6) := (blk_cell BK164.out 6).trans rfl
                have hfz26_0 := blk_frozen BK164.out 0
                have hfz26_1 := blk_frozen BK164.out 1
                have hfz26_2 := blk_frozen BK164.out 2
                have hfz26_3 := blk_frozen BK164.out 3
                have hfz26_4 := blk_frozen BK164.out 4
                have hfz26_5 := blk_frozen BK164.out 5
                have hfz26_6 := blk_frozen BK164.out 6
                have hcz27_0 : wr.cell? ⟨gb165, 0, none⟩ = some (.slice A1_0 l1_0.length c1_0) := (blk_cell BK165.out 0).trans rfl
                have hcz27_1 : wr.cell? ⟨gb165, 1, none⟩ = some (.int .i64 a1_1) := (blk_cell BK165.out 1).trans rfl
                have hcz27_2 : wr.cell? ⟨gb165, 2, none⟩ = some (.int .u64 a1_2) := (blk_cell BK165.out 2).trans rfl
                have hcz27_3 : wr.cell? ⟨gb165, 3, none⟩ = some (.int .u64 a1_3) := (blk_cell BK165.out 3).trans rfl
                have hcz27_4 : wr.cell? ⟨gb165, 4, none⟩ = some (.int .u64 a1_4) := (blk_cell BK165.out 4).trans rfl
                have hcz27_5 : wr.cell? ⟨gb165, 5, none⟩ = some (.int .u64 a1_5) := (blk_cell BK165.out 5).trans rfl
                have hcz27_6 : wr.cell? ⟨gb165, 6, none⟩ = some (.bool a1_6) := (blk_cell BK165.out 6).trans rfl
                have hfz27_0 := blk_frozen BK165.out 0
                have hfz27_1 := blk_frozen BK165.out 1
                have hfz27_2 := blk_frozen BK165.out 2
                have hfz27_3 := blk_frozen BK165.out 3
                have hfz27_4 := blk_frozen BK165.out 4
                have hfz27_5 := blk_frozen BK165.out 5
                have hfz27_6 := blk_frozen BK165.out 6
                go_wp2
                repeat (go_quiet (fail); try go_wp2)
                go_ret
                exact ⟨by first | rfl | (simp [errW_none, errW_some] <;> rfl) | (simp [*, errW_none, errW_some] <;> rfl), by repeat (first | (with_reducible first | exact HB.out | apply below_alloc | apply pw_below_drewN | apply below_drew1 | refine below_set ?_ GE164.out | refine below_set ?_ GE165.out) | exact HB.out)⟩
            · rw [if_neg c20] at H
              have c20b0 : (a0_2 == a1_2 && (a0_3 == a1_3)) = false := by simpa using c20
              (try (have c20b1 : decide (a0_2 = a1_2 && (a0_3 == a1_3)) = false := by first | decide | simpa using c20))
              (try (have c20b2 : (a0_2 == a1_2 && (a0_3 == a1_3)) = false := by first | decide | simpa using c20))
              (try (have c20b3 : ¬ (a0_2 = a1_2 && (a0_3 == a1_3)) := by simpa using c20))
              clear c20
              obtain rfl := Option.some.inj H
              have hnb28 := NB164_165.out
              have hnc28 := NB165_164.out
              have hcz29_0 : wr.cell? ⟨gb164, 0, none⟩ = some (.slice A0_0 l0_0.length c0_0) := (blk_cell BK164.out 0).trans rfl
              have hcz29_1 : wr.cell? ⟨gb164, 1, none⟩ = some (.int .i64 a0_1) := (blk_cell BK164.out 1).trans rfl
              have hcz29_2 : wr.cell? ⟨gb164, 2, none⟩ = some (.int .u64 a0_2) := (blk_cell BK164.out 2).trans rfl
              have hcz29_3 : wr.cell? ⟨gb164, 3, none⟩ = some (.int .u64 a0_3) := (blk_cell BK164.out 3).trans rfl
              have hcz29_4 : wr.cell? ⟨gb164, 4, none⟩ = some (.int .u64 a0_4) := (blk_cell BK164.out 4).trans rfl
              have hcz29_5 : wr.cell? ⟨gb164, 5, none⟩ = some (.int .u64 a0_5) := (blk_cell BK164.out 5).trans rfl
              have hcz29_6 : wr.cell? ⟨gb164, 6, none⟩ = some (.bool a0_6) := (blk_cell BK164.out 6).trans rfl
              have hfz29_0 := blk_frozen BK164.out 0
              have hfz29_1 := blk_frozen BK164.out 1
              have hfz29_2 := blk_frozen BK164.out 2
              have hfz29_3 := blk_frozen BK164.out 3
              have hfz29_4 := blk_frozen BK164.out 4
              have hfz29_5 := blk_frozen BK164.out 5
              have hfz29_6 := blk_frozen BK164.out 6
              have hcz30_0 : wr.cell? ⟨gb165, 0, none⟩ = some (.slice A1_0 l1_0.length c1_0) := (blk_cell BK165.out 0).trans rfl
              have hcz30_1 : wr.cell? ⟨gb165, 1, none⟩ = some (.int .i64 a1_1) := (blk_cell BK165.out 1).trans rfl
              have hcz30_2 : wr.cell? ⟨gb165, 2, none⟩ = some (.int .u64 a1_2) := (blk_cell BK165.out 2).trans rfl
              have hcz30_3 : wr.cell? ⟨gb165, 3, none⟩ = some (.int .u64 a1_3) := (blk_cell BK165.out 3).trans rfl
              have hcz30_4 : wr.cell? ⟨gb165, 4, none⟩ = some (.int .u64 a1_4) := (blk_cell BK165.out 4).trans rfl
              have hcz30_5 : wr.cell? ⟨gb165, 5, none⟩ = some (.int .u64 a1_5) := (blk_cell BK165.out 5).trans rfl
              have hcz30_6 : wr.cell? ⟨gb165, 6, none⟩ = some (.bool a1_6) := (blk_cell BK165.out 6).trans rfl
              have hfz30_0 := blk_frozen BK165.out 0
              have hfz30_1 := blk_frozen BK165.out 1
              have hfz30_2 := blk_frozen BK165.out 2
              have hfz30_3 := blk_frozen BK165.out 3
              have hfz30_4 := blk_frozen BK165.out 4
              have hfz30_5 := blk_frozen BK165.out 5
              have hfz30_6 := blk_frozen BK165.out 6
              go_wp2
              repeat (go_quiet (fail); try go_wp2)
              go_ret
              exact ⟨by first | rfl | (simp [errW_none, errW_some] <;> rfl) | (simp [*, errW_none, errW_some] <;> rfl), by repeat (first | (with_reducible first | exact HB.out | apply below_alloc | apply pw_below_drewN | apply below_drew1 | refine below_set ?_ GE164.out | refine below_set ?_ GE165.out) | exact HB.out)⟩
          · rw [if_neg c19] at H
            have c19b0 : (a0_1 == a1_1) = false := beq_eq_false_iff_ne.mpr c19
            have c19b1 : (a0_1 != a1_1) = true := bne_iff_ne.mpr c19
            obtain rfl := Option.some.inj H
            have hnb31 := NB164_165.out
            have hnc31 := NB165_164.out
            have hcz32_0 : wr.cell? ⟨gb164, 0, none⟩ = some (.slice A0_0 l0_0.length c0_0) := (blk_cell BK164.out 0).trans rfl
            have hcz32_1 : wr.cell? ⟨gb164, 1, none⟩ = some (.int .i64 a0_1) := (blk_cell BK164.out 1).trans rfl
            have hcz32_2 : wr.cell? ⟨gb164, 2, none⟩ = some (.int .u64 a0_2) := (blk_cell BK164.out 2).trans rfl
            have hcz32_3 : wr.cell? ⟨gb164, 3, none⟩ = some (.int .u64 a0_3) := (blk_cell BK164.out 3).trans rfl
            have hcz32_4 : wr.cell? ⟨gb164, 4, none⟩ = some (.int .u64 a0_4) := (blk_cell BK164.out 4).trans rfl
            have hcz32_5 : wr.cell? ⟨gb164, 5, none⟩ = some (.int .u64 a0_5) := (blk_cell BK164.out 5).trans rfl
            have hcz32_6 : wr.cell? ⟨gb164, 6, none⟩ = some (.bool a0_6) := (blk_cell BK164.out 6).trans rfl
            have hfz32_0 := blk_frozen BK164.out 0
            have hfz32_1 := blk_frozen BK164.out 1
            have hfz32_2 := blk_frozen BK164.out 2
            have hfz32_3 := blk_frozen BK164.out 3
            have hfz32_4 := blk_frozen BK164.out 4
            have hfz32_5 := blk_frozen BK164.out 5
            have hfz32_6 := blk_frozen BK164.out 6
            have hcz33_0 : wr.cell? ⟨gb165, 0, none⟩ = some (.slice A1_0 l1_0.length c1_0) := (blk_cell BK165.out 0).trans rfl
            have hcz33_1 : wr.cell? ⟨gb165, 1, none⟩ = some (.int .i64 a1_1) := (blk_cell BK165.out 1).trans rfl
            have hcz33_2 : wr.cell? ⟨gb165, 2, none⟩ = some (.int .u64 a1_2) := (blk_cell BK165.out 2).trans rfl
            have hcz33_3 : wr.cell? ⟨gb165, 3, none⟩ = some (.int .u64 a1_3) := (blk_cell BK165.out 3).trans rfl
            have hcz33_4 : wr.cell? ⟨gb165, 4, none⟩ = some (.int .u64 a1_4) := (blk_cell BK165.out 4).trans rfl
            have hcz33_5 : wr.cell? ⟨gb165, 5, none⟩ = some (.int .u64 a1_5) := (blk_cell BK165.out 5).trans rfl
            have hcz33_6 : wr.cell? ⟨gb165, 6, none⟩ = some (.bool a1_6) := (blk_cell BK165.out 6).trans rfl
            have hfz33_0 := blk_frozen BK165.out 0
            have hfz33_1 := blk_frozen BK165.out 1
            have hfz33_2 := blk_frozen BK165.out 2
            have hfz33_3 := blk_frozen BK165.out 3
            have hfz33_4 := blk_frozen BK165.out 4
            have hfz33_5 := blk_frozen BK165.out 5
            have hfz33_6 := blk_frozen BK165.out 6
            go_wp2
            repeat (go_quiet (fail); try go_wp2)
            go_ret
            exact ⟨by first | rfl | (simp [errW_none, errW_some] <;> rfl) | (simp [*, errW_none, errW_some] <;> rfl), by repeat (first | (with_reducible first | exact HB.out | apply below_alloc | apply pw_below_drewN | apply below_drew1 | refine below_set ?_ GE164.out | refine below_set ?_ GE165.out) | exact HB.out)⟩
  · rw [if_neg c3] at H
    have c3b0 : ((l0_0.length : Int) == (l1_0.length : Int)) = false := beq_eq_false_iff_ne.mpr c3
    have c3b1 : ((l0_0.length : Int) != (l1_0.length : Int)) = true := bne_iff_ne.mpr c3
    have c3b2 : (l0_0.length == l1_0.length) = false := by first | simpa using c3 | (simp at c3 ⊢; omega)
    obtain rfl := Option.some.inj H
    go_enter Try.func10, Try.ntmps10
    go_wp2_with (first | ((with_reducible refine gate_dst (N := 2) rfl ?_); refine box_event ?hg (N := 2) ?hd (cs := #[.slice A0_0 l0_0.length c0_0, .int .i64 a0_1, .int .u64 a0_2, .int .u64 a0_3, .int .u64 a0_4, .int .u64 a0_5, .bool a0_6]) (t := 27) ?hr ?_; (case hd => rfl); (case hg => rfl); (case hr => first | (go_simp; done) | (go_simp; rfl)); intro gb164 hg w34 hbox hb; have n0_ := Aside0.mk (below_step (by repeat (first | (with_reducible first | exact HB.out | apply below_alloc | apply pw_below_drewN | apply below_drew1) | exact HB.out)) hb); have n1_ := Aside0.mk (hbox); have n2_ := Aside0.mk ((by rw [hg]; exact (below_size (by repeat (first | (with_reducible first | exact HB.out | apply below_alloc | apply pw_below_drewN | apply below_drew1) | exact HB.out))) : w.heap.size ≤ gb164)); have n3_ := Aside0.mk ((by rw [hg]; exact (below_size (by repeat (first | (with_reducible first | exact HB.out | apply below_alloc | apply pw_below_drewN | apply below_drew1) | exact HB.out))) : w.heap.size ≤ gb164)); clear HB; have HB := n0_; have BK164 := n1_; have GW164 := n2_; have GE164 := n3_; clear n0_ n1_ n2_ n3_; clear hb hbox hg) | ((with_reducible refine gate_dst (N := 3) rfl ?_); refine box_event ?hg (N := 3) ?hd (cs := #[.slice A1_0 l1_0.length c1_0, .int .i64 a1_1, .int .u64 a1_2, .int .u64 a1_3, .int .u64 a1_4, .int .u64 a1_5, .bool a1_6]) (t := 27) ?hr ?_; (case hd => rfl); (case hg => rfl); (case hr => first | (go_simp; done) | (go_simp; rfl)); intro gb165 hg w35 hbox hb; have n0_ := offertoryref09_Same.keepB BK164 hb; have n1_ := Aside0.mk (below_step (by repeat (first | (with_reducible first | exact HB.out | apply below_alloc | apply pw_below_drewN | apply below_drew1 | refine below_set ?_ GE164.out) | exact HB.out)) hb); have n2_ := Aside0.mk (hbox); have n3_ := Aside0.mk ((by rw [hg]; exact (below_size (by repeat (first | (with_reducible first | exact HB.out | apply below_alloc | apply pw_below_drewN | apply below_drew1 | refine below_set ?_ GE164.out) | exact HB.out))) : w.heap.size ≤ gb165)); have n4_ := Aside0.mk ((by rw [hg]; exact (below_size (by repeat (first | (with_reducible first | exact HB.out | apply below_alloc | apply pw_below_drewN | apply below_drew1 | refine below_set ?_ GE164.out) | exact HB.out))) : w.heap.size ≤ gb165)); have n5_ := offertoryref09_Same.neL BK164 hg; have n6_ := offertoryref09_Same.neG BK164 hg; clear BK164; clear HB; have BK164 := n0_; have HB := n1_; have BK165 := n2_; have GW165 := n3_; have GE165 := n4_; have NB164_165 := n5_; have NB165_164 := n6_; clear n0_ n1_ n2_ n3_ n4_ n5_ n6_; clear hb hbox hg; have hnb36 := NB164_165.out; have hnc36 := NB165_164.out; have hcz37_0 : w35.cell? ⟨gb164, 0, none⟩ = some (.slice A0_0 l0_0.length c0_0) := (blk_cell BK164.out 0).trans rfl; have hcz37_1 : w35.cell? ⟨gb164, 1, none⟩ = some (.int .i64 a0_1) := (blk_cell BK164.out 1).trans rfl; have hcz37_2 : w35.cell? ⟨gb164, 2, none⟩ = some (.int .u64 a0_2) := (blk_cell BK164.out 2).trans rfl; have hcz37_3 : w35.cell? ⟨gb164, 3, none⟩ = some (.int .u64 a0_3) := (blk_cell BK164.out 3).trans rfl; have hcz37_4 : w35.cell? ⟨gb164, 4, none⟩ = some (.int .u64 a0_4) := (blk_cell BK164.out 4).trans rfl; have hcz37_5 : w35.cell? ⟨gb164, 5, none⟩ = some (.int .u64 a0_5) := (blk_cell BK164.out 5).trans rfl; have hcz37_6 : w35.cell? ⟨gb164, 6, none⟩ = some (.bool a0_6) := (blk_cell BK164.out 6).trans rfl; have hfz37_0 := blk_frozen BK164.out 0; have hfz37_1 := blk_frozen BK164.out 1; have hfz37_2 := blk_frozen BK164.out 2; have hfz37_3 := blk_frozen BK164.out 3; have hfz37_4 := blk_frozen BK164.out 4; have hfz37_5 := blk_frozen BK164.out 5; have hfz37_6 := blk_frozen BK164.out 6; have hcz38_0 : w35.cell? ⟨gb165, 0, none⟩ = some (.slice A1_0 l1_0.length c1_0) := (blk_cell BK165.out 0).trans rfl; have hcz38_1 : w35.cell? ⟨gb165, 1, none⟩ = some (.int .i64 a1_1) := (blk_cell BK165.out 1).trans rfl; have hcz38_2 : w35.cell? ⟨gb165, 2, none⟩ = some (.int .u64 a1_2) := (blk_cell BK165.out 2).trans rfl; have hcz38_3 : w35.cell? ⟨gb165, 3, none⟩ = some (.int .u64 a1_3) := (blk_cell BK165.out 3).trans rfl; have hcz38_4 : w35.cell? ⟨gb165, 4, none⟩ = some (.int .u64 a1_4) := (blk_cell BK165.out 4).trans rfl; have hcz38_5 : w35.cell? ⟨gb165, 5, none⟩ = some (.int .u64 a1_5) := (blk_cell BK165.out 5).trans rfl; have hcz38_6 : w35.cell? ⟨gb165, 6, none⟩ = some (.bool a1_6) := (blk_cell BK165.out 6).trans rfl; have hfz38_0 := blk_frozen BK165.out 0; have hfz38_1 := blk_frozen BK165.out 1; have hfz38_2 := blk_frozen BK165.out 2; have hfz38_3 := blk_frozen BK165.out 3; have hfz38_4 := blk_frozen BK165.out 4; have hfz38_5 := blk_frozen BK165.out 5; have hfz38_6 := blk_frozen BK165.out 6))
    repeat (go_quiet (first | ((with_reducible refine gate_dst (N := 2) rfl ?_); refine box_event ?hg (N := 2) ?hd (cs := #[.slice A0_0 l0_0.length c0_0, .int .i64 a0_1, .int .u64 a0_2, .int .u64 a0_3, .int .u64 a0_4, .int .u64 a0_5, .bool a0_6]) (t := 27) ?hr ?_; (case hd => rfl); (case hg => rfl); (case hr => first | (go_simp; done) | (go_simp; rfl)); intro gb164 hg w34 hbox hb; have n0_ := Aside0.mk (below_step (by repeat (first | (with_reducible first | exact HB.out | apply below_alloc | apply pw_below_drewN | apply below_drew1) | exact HB.out)) hb); have n1_ := Aside0.mk (hbox); have n2_ := Aside0.mk ((by rw [hg]; exact (below_size (by repeat (first | (with_reducible first | exact HB.out | apply below_alloc | apply pw_below_drewN | apply below_drew1) | exact HB.out))) : w.heap.size ≤ gb164)); have n3_ := Aside0.mk ((by rw [hg]; exact (below_size (by repeat (first | (with_reducible first | exact HB.out | apply below_alloc | apply pw_below_drewN | apply below_drew1) | exact HB.out))) : w.heap.size ≤ gb164)); clear HB; have HB := n0_; have BK164 := n1_; have GW164 := n2_; have GE164 := n3_; clear n0_ n1_ n2_ n3_; clear hb hbox hg) | ((with_reducible refine gate_dst (N := 3) rfl ?_); refine box_event ?hg (N := 3) ?hd (cs := #[.slice A1_0 l1_0.length c1_0, .int .i64 a1_1, .int .u64 a1_2, .int .u64 a1_3, .int .u64 a1_4, .int .u64 a1_5, .bool a1_6]) (t := 27) ?hr ?_; (case hd => rfl); (case hg => rfl); (case hr => first | (go_simp; done) | (go_simp; rfl)); intro gb165 hg w35 hbox hb; have n0_ := offertoryref09_Same.keepB BK164 hb; have n1_ := Aside0.mk (below_step (by repeat (first | (with_reducible first | exact HB.out | apply below_alloc | apply pw_below_drewN | apply below_drew1 | refine below_set ?_ GE164.out) | exact HB.out)) hb); have n2_ := Aside0.mk (hbox); have n3_ := Aside0.mk ((by rw [hg]; exact (below_size (by repeat (first | (with_reducible first | exact HB.out | apply below_alloc | apply pw_below_drewN | apply below_drew1 | refine below_set ?_ GE164.out) | exact HB.out))) : w.heap.size ≤ gb165)); have n4_ := Aside0.mk ((by rw [hg]; exact (below_size (by repeat (first | (with_reducible first | exact HB.out | apply below_alloc | apply pw_below_drewN | apply below_drew1 | refine below_set ?_ GE164.out) | exact HB.out))) : w.heap.size ≤ gb165)); have n5_ := offertoryref09_Same.neL BK164 hg; have n6_ := offertoryref09_Same.neG BK164 hg; clear BK164; clear HB; have BK164 := n0_; have HB := n1_; have BK165 := n2_; have GW165 := n3_; have GE165 := n4_; have NB164_165 := n5_; have NB165_164 := n6_; clear n0_ n1_ n2_ n3_ n4_ n5_ n6_; clear hb hbox hg; have hnb36 := NB164_165.out; have hnc36 := NB165_164.out; have hcz37_0 : w35.cell? ⟨gb164, 0, none⟩ = some (.slice A0_0 l0_0.length c0_0) := (blk_cell BK164.out 0).trans rfl; have hcz37_1 : w35.cell? ⟨gb164, 1, none⟩ = some (.int .i64 a0_1) := (blk_cell BK164.out 1).trans rfl; have hcz37_2 : w35.cell? ⟨gb164, 2, none⟩ = some (.int .u64 a0_2) := (blk_cell BK164.out 2).trans rfl; have hcz37_3 : w35.cell? ⟨gb164, 3, none⟩ = some (.int .u64 a0_3) := (blk_cell BK164.out 3).trans rfl; have hcz37_4 : w35.cell? ⟨gb164, 4, none⟩ = some (.int .u64 a0_4) := (blk_cell BK164.out 4).trans rfl; have hcz37_5 : w35.cell? ⟨gb164, 5, none⟩ = some (.int .u64 a0_5) := (blk_cell BK164.out 5).trans rfl; have hcz37_6 : w35.cell? ⟨gb164, 6, none⟩ = some (.bool a0_6) := (blk_cell BK164.out 6).trans rfl; have hfz37_0 := blk_frozen BK164.out 0; have hfz37_1 := blk_frozen BK164.out 1; have hfz37_2 := blk_frozen BK164.out 2; have hfz37_3 := blk_frozen BK164.out 3; have hfz37_4 := blk_frozen BK164.out 4; have hfz37_5 := blk_frozen BK164.out 5; have hfz37_6 := blk_frozen BK164.out 6; have hcz38_0 : w35.cell? ⟨gb165, 0, none⟩ = some (.slice A1_0 l1_0.length c1_0) := (blk_cell BK165.out 0).trans rfl; have hcz38_1 : w35.cell? ⟨gb165, 1, none⟩ = some (.int .i64 a1_1) := (blk_cell BK165.out 1).trans rfl; have hcz38_2 : w35.cell? ⟨gb165, 2, none⟩ = some (.int .u64 a1_2) := (blk_cell BK165.out 2).trans rfl; have hcz38_3 : w35.cell? ⟨gb165, 3, none⟩ = some (.int .u64 a1_3) := (blk_cell BK165.out 3).trans rfl; have hcz38_4 : w35.cell? ⟨gb165, 4, none⟩ = some (.int .u64 a1_4) := (blk_cell BK165.out 4).trans rfl; have hcz38_5 : w35.cell? ⟨gb165, 5, none⟩ = some (.int .u64 a1_5) := (blk_cell BK165.out 5).trans rfl; have hcz38_6 : w35.cell? ⟨gb165, 6, none⟩ = some (.bool a1_6) := (blk_cell BK165.out 6).trans rfl; have hfz38_0 := blk_frozen BK165.out 0; have hfz38_1 := blk_frozen BK165.out 1; have hfz38_2 := blk_frozen BK165.out 2; have hfz38_3 := blk_frozen BK165.out 3; have hfz38_4 := blk_frozen BK165.out 4; have hfz38_5 := blk_frozen BK165.out 5; have hfz38_6 := blk_frozen BK165.out 6)); try go_wp2_with (first | ((with_reducible refine gate_dst (N := 2) rfl ?_); refine box_event ?hg (N := 2) ?hd (cs := #[.slice A0_0 l0_0.length c0_0, .int .i64 a0_1, .int .u64 a0_2, .int .u64 a0_3, .int .u64 a0_4, .int .u64 a0_5, .bool a0_6]) (t := 27) ?hr ?_; (case hd => rfl); (case hg => rfl); (case hr => first | (go_simp; done) | (go_simp; rfl)); intro gb164 hg w34 hbox hb; have n0_ := Aside0.mk (below_step (by repeat (first | (with_reducible first | exact HB.out | apply below_alloc | apply pw_below_drewN | apply below_drew1) | exact HB.out)) hb); have n1_ := Aside0.mk (hbox); have n2_ := Aside0.mk ((by rw [hg]; exact (below_size (by repeat (first | (with_reducible first | exact HB.out | apply below_alloc | apply pw_below_drewN | apply below_drew1) | exact HB.out))) : w.heap.size ≤ gb164)); have n3_ := Aside0.mk ((by rw [hg]; exact (below_size (by repeat (first | (with_reducible first | exact HB.out | apply below_alloc | apply pw_below_drewN | apply below_drew1) | exact HB.out))) : w.heap.size ≤ gb164)); clear HB; have HB := n0_; have BK164 := n1_; have GW164 := n2_; have GE164 := n3_; clear n0_ n1_ n2_ n3_; clear hb hbox hg) | ((with_reducible refine gate_dst (N := 3) rfl ?_); refine box_event ?hg (N := 3) ?hd (cs := #[.slice A1_0 l1_0.length c1_0, .int .i64 a1_1, .int .u64 a1_2, .int .u64 a1_3, .int .u64 a1_4, .int .u64 a1_5, .bool a1_6]) (t := 27) ?hr ?_; (case hd => rfl); (case hg => rfl); (case hr => first | (go_simp; done) | (go_simp; rfl)); intro gb165 hg w35 hbox hb; have n0_ := offertoryref09_Same.keepB BK164 hb; have n1_ := Aside0.mk (below_step (by repeat (first | (with_reducible first | exact HB.out | apply below_alloc | apply pw_below_drewN | apply below_drew1 | refine below_set ?_ GE164.out) | exact HB.out)) hb); have n2_ := Aside0.mk (hbox); have n3_ := Aside0.mk ((by rw [hg]; exact (below_size (by repeat (first | (with_reducible first | exact HB.out | apply below_alloc | apply pw_below_drewN | apply below_drew1 | refine below_set ?_ GE164.out) | exact HB.out))) : w.heap.size ≤ gb165)); have n4_ := Aside0.mk ((by rw [hg]; exact (below_size (by repeat (first | (with_reducible first | exact HB.out | apply below_alloc | apply pw_below_drewN | apply below_drew1 | refine below_set ?_ GE164.out) | exact HB.out))) : w.heap.size ≤ gb165)); have n5_ := offertoryref09_Same.neL BK164 hg; have n6_ := offertoryref09_Same.neG BK164 hg; clear BK164; clear HB; have BK164 := n0_; have HB := n1_; have BK165 := n2_; have GW165 := n3_; have GE165 := n4_; have NB164_165 := n5_; have NB165_164 := n6_; clear n0_ n1_ n2_ n3_ n4_ n5_ n6_; clear hb hbox hg; have hnb36 := NB164_165.out; have hnc36 := NB165_164.out; have hcz37_0 : w35.cell? ⟨gb164, 0, none⟩ = some (.slice A0_0 l0_0.length c0_0) := (blk_cell BK164.out 0).trans rfl; have hcz37_1 : w35.cell? ⟨gb164, 1, none⟩ = some (.int .i64 a0_1) := (blk_cell BK164.out 1).trans rfl; have hcz37_2 : w35.cell? ⟨gb164, 2, none⟩ = some (.int .u64 a0_2) := (blk_cell BK164.out 2).trans rfl; have hcz37_3 : w35.cell? ⟨gb164, 3, none⟩ = some (.int .u64 a0_3) := (blk_cell BK164.out 3).trans rfl; have hcz37_4 : w35.cell? ⟨gb164, 4, none⟩ = some (.int .u64 a0_4) := (blk_cell BK164.out 4).trans rfl; have hcz37_5 : w35.cell? ⟨gb164, 5, none⟩ = some (.int .u64 a0_5) := (blk_cell BK164.out 5).trans rfl; have hcz37_6 : w35.cell? ⟨gb164, 6, none⟩ = some (.bool a0_6) := (blk_cell BK164.out 6).trans rfl; have hfz37_0 := blk_frozen BK164.out 0; have hfz37_1 := blk_frozen BK164.out 1; have hfz37_2 := blk_frozen BK164.out 2; have hfz37_3 := blk_frozen BK164.out 3; have hfz37_4 := blk_frozen BK164.out 4; have hfz37_5 := blk_frozen BK164.out 5; have hfz37_6 := blk_frozen BK164.out 6; have hcz38_0 : w35.cell? ⟨gb165, 0, none⟩ = some (.slice A1_0 l1_0.length c1_0) := (blk_cell BK165.out 0).trans rfl; have hcz38_1 : w35.cell? ⟨gb165, 1, none⟩ = some (.int .i64 a1_1) := (blk_cell BK165.out 1).trans rfl; have hcz38_2 : w35.cell? ⟨gb165, 2, none⟩ = some (.int .u64 a1_2) := (blk_cell BK165.out 2).trans rfl; have hcz38_3 : w35.cell? ⟨gb165, 3, none⟩ = some (.int .u64 a1_3) := (blk_cell BK165.out 3).trans rfl; have hcz38_4 : w35.cell? ⟨gb165, 4, none⟩ = some (.int .u64 a1_4) := (blk_cell BK165.out 4).trans rfl; have hcz38_5 : w35.cell? ⟨gb165, 5, none⟩ = some (.int .u64 a1_5) := (blk_cell BK165.out 5).trans rfl; have hcz38_6 : w35.cell? ⟨gb165, 6, none⟩ = some (.bool a1_6) := (blk_cell BK165.out 6).trans rfl; have hfz38_0 := blk_frozen BK165.out 0; have hfz38_1 := blk_frozen BK165.out 1; have hfz38_2 := blk_frozen BK165.out 2; have hfz38_3 := blk_frozen BK165.out 3; have hfz38_4 := blk_frozen BK165.out 4; have hfz38_5 := blk_frozen BK165.out 5; have hfz38_6 := blk_frozen BK165.out 6)))
    go_ret
    exact ⟨by first | rfl | (simp [errW_none, errW_some] <;> rfl) | (simp [*, errW_none, errW_some] <;> rfl), by repeat (first | (with_reducible first | exact HB.out | apply below_alloc | apply pw_below_drewN | apply below_drew1 | refine below_set ?_ GE164.out | refine below_set ?_ GE165.out) | exact HB.out)⟩

/-! ### ledger_minus: function 24 -/
def ledger_minus.f (a0 : Int) (a1 : Int) : Option (Int) := some (wrap64 (a0 - a1))
set_option maxHeartbeats 8000000 in
theorem ledger_minus.calls (a0 : Int) (a1 : Int) (r : Int) (w : World) (h : ledger_minus.f a0 a1 = some r) :
    Calls Try.prog 24 #[.int .i64 a0, .int .i64 a1] w fun e w' => e = .returned (.int .i64 r) ∧ Below w.heap.size w w' := by
  obtain rfl := Option.some.inj h
  go_enter Try.func24, Try.ntmps24
  go_wp2
  go_ret
  exact ⟨by first | rfl | (simp; done) | (simp [*]; done), Below.refl _ _⟩

end Go.Proofs.Yticihbccflflfaa.PAll
