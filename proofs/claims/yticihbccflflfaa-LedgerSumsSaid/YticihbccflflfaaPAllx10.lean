/- The Go functions that the laws reach, as Lean functions, and that each call comes to what its function says. Written by a program of this session (a turned copy of the kit's print). No condition beyond those that each theorem states. -/
import Derived.Test.YticihbccflflfaaPAllx0
import Derived.Test.YticihbccflflfaaPAllx2
import Derived.Test.YticihbccflflfaaPAllx4
import Derived.Test.YticihbccflflfaaPAllx5
import Derived.Test.YticihbccflflfaaPAllx8
import Derived.Test.YticihbccflflfaaPAllx9
namespace Go.Proofs.Yticihbccflflfaa.PAll
open Go.RowKit Go.Proofs.YticihbccflflfaaW.PrintWords Go.Proofs.YticihbccflflfaaW.PrintLast Go.Proofs.YticihbccflflfaaW.PrintMore
attribute [local go_sem] max2_int min2_int max_two min_two max_three min_three max_four min_four   -- for this text's walks alone
set_option linter.unusedVariables false
set_option linter.unusedSimpArgs false

theorem ledger_Sub.keepB {W0 W w1 : World} {g : Nat} {o : Obj} (h : Aside0 (W0.heap[g]? = some o)) (hb : Below W.heap.size W w1) (hs : W0.heap[g]? = some o → W.heap[g]? = some o := by intro h_; (with_reducible repeat (first | refine blk_drewN ?_ _ | refine blk_drew ?_ | refine blk_alloc ?_ _)); exact h_) : Aside0 (w1.heap[g]? = some o) := ⟨(hb.block g (blk_lt (hs h.out))).trans (hs h.out)⟩
theorem ledger_Sub.neL {W0 W : World} {g gb : Nat} {o : Obj} (h : Aside0 (W0.heap[g]? = some o)) (hg : gb = W.heap.size) (hs : W0.heap[g]? = some o → W.heap[g]? = some o := by intro h_; (with_reducible repeat (first | refine blk_drewN ?_ _ | refine blk_drew ?_ | refine blk_alloc ?_ _)); exact h_) : Aside0 (g ≠ gb) := ⟨by rw [hg]; exact Nat.ne_of_lt (blk_lt (hs h.out))⟩
theorem ledger_Sub.neG {W0 W : World} {g gb : Nat} {o : Obj} (h : Aside0 (W0.heap[g]? = some o)) (hg : gb = W.heap.size) (hs : W0.heap[g]? = some o → W.heap[g]? = some o := by intro h_; (with_reducible repeat (first | refine blk_drewN ?_ _ | refine blk_drew ?_ | refine blk_alloc ?_ _)); exact h_) : Aside0 (gb ≠ g) := ⟨by rw [hg]; exact Nat.ne_of_gt (blk_lt (hs h.out))⟩
/-! ### ledger_Sub: function 11 -/
def ledger_Sub.f (k : Nat) (l0_0 : List Int) (a0_1 : Int) (a0_2 : Int) (a0_3 : Int) (a0_4 : Int) (a0_5 : Int) (a0_6 : Bool) (l1_0 : List Int) (a1_1 : Int) (a1_2 : Int) (a1_3 : Int) (a1_4 : Int) (a1_5 : Int) (a1_6 : Bool) : Option (List Int × Int × Int × Int × Int × Int × Bool × Int) := (ledger_way_both_f24.f k 0 0 l0_0 a0_1 a0_2 a0_3 a0_4 a0_5 a0_6 l1_0 a1_1 a1_2 a1_3 a1_4 a1_5 a1_6).bind fun bt196 => (some (bt196.1, bt196.2.1, bt196.2.2.1, bt196.2.2.2.1, bt196.2.2.2.2.1, bt196.2.2.2.2.2.1, bt196.2.2.2.2.2.2.1, bt196.2.2.2.2.2.2.2))
theorem ledger_Sub.mono : ∀ a0 a1 a2 a3 a4 a5 a6 a7 a8 a9 a10 a11 a12 a13 k, LeO (ledger_Sub.f k a0 a1 a2 a3 a4 a5 a6 a7 a8 a9 a10 a11 a12 a13) (ledger_Sub.f (k + 1) a0 a1 a2 a3 a4 a5 a6 a7 a8 a9 a10 a11 a12 a13) := by
  intro a0 a1 a2 a3 a4 a5 a6 a7 a8 a9 a10 a11 a12 a13 k
  unfold ledger_Sub.f
  repeat' first
      | (with_reducible exact ledger_way_both_f24.mono _ _ _ _ _ _ _ _ _ _ _ _ _ _ _ _ _)
      | (with_reducible exact LeO.refl _)
      | (with_reducible exact LeO.none _)
      | (with_reducible refine LeO.ite ?_ ?_)
      | (with_reducible refine LeO.bind ?_ (fun _ => ?_))
      | exact ledger_way_both_f24.mono _ _ _ _ _ _ _ _ _ _ _ _ _ _ _ _ _
      | exact LeO.none _
      | refine LeO.ite ?_ ?_
      | refine LeO.bind ?_ (fun _ => ?_)
set_option maxHeartbeats 8000000 in
set_option maxRecDepth 100000 in
theorem ledger_Sub.calls (k : Nat) (A0_0 : Option Addr) (c0_0 : Nat) (l0_0 : List Int) (a0_1 : Int) (a0_2 : Int) (a0_3 : Int) (a0_4 : Int) (a0_5 : Int) (a0_6 : Bool) (A1_0 : Option Addr) (c1_0 : Nat) (l1_0 : List Int) (a1_1 : Int) (a1_2 : Int) (a1_3 : Int) (a1_4 : Int) (a1_5 : Int) (a1_6 : Bool) (r1 : List Int) (r2 : Int) (r3 : Int) (r4 : Int) (r5 : Int) (r6 : Int) (r7 : Bool) (r8 : Int) (w : World) (hr0_0 : Kd.C (Kd.int .i64) w A0_0 l0_0.length l0_0) (hc0_0 : l0_0.length ≤ c0_0) (hr1_0 : Kd.C (Kd.int .i64) w A1_0 l1_0.length l1_0) (hc1_0 : l1_0.length ≤ c1_0) (h : ledger_Sub.f k l0_0 a0_1 a0_2 a0_3 a0_4 a0_5 a0_6 l1_0 a1_1 a1_2 a1_3 a1_4 a1_5 a1_6 = some (r1, r2, r3, r4, r5, r6, r7, r8)) :
    Calls Try.prog 11 #[.agg #[.slice A0_0 l0_0.length c0_0, .int .i64 a0_1, .int .u64 a0_2, .int .u64 a0_3, .int .u64 a0_4, .int .u64 a0_5, .bool a0_6], .agg #[.slice A1_0 l1_0.length c1_0, .int .i64 a1_1, .int .u64 a1_2, .int .u64 a1_3, .int .u64 a1_4, .int .u64 a1_5, .bool a1_6]] w fun e w' => ∃ v0_ : Value, e = .returned (.tuple #[.agg #[v0_, .int .i64 r2, .int .u64 r3, .int .u64 r4, .int .u64 r5, .int .u64 r6, .bool r7], .int .i64 r8]) ∧ Kd.R (Kd.int .i64) 3 w' w.heap.size (fun _ => True) v0_ r1 ∧ Below w.heap.size w w' := by
  have hu27 := Try.underlying27
  have hu45 := Try.underlying45
  have hu48 := Try.underlying48
  have HR0_0 := Aside0.mk hr0_0
  have HC0_0 := Aside0.mk hc0_0
  clear hr0_0 hc0_0
  have HR1_0 := Aside0.mk hr1_0
  have HC1_0 := Aside0.mk hc1_0
  clear hr1_0 hc1_0
  have HB := Aside0.mk (Below.refl w.heap.size w)
  have H : ((ledger_way_both_f24.f k 0 0 l0_0 a0_1 a0_2 a0_3 a0_4 a0_5 a0_6 l1_0 a1_1 a1_2 a1_3 a1_4 a1_5 a1_6).bind fun bt196 => (some (bt196.1, bt196.2.1, bt196.2.2.1, bt196.2.2.2.1, bt196.2.2.2.2.1, bt196.2.2.2.2.2.1, bt196.2.2.2.2.2.2.1, bt196.2.2.2.2.2.2.2))) = some (r1, r2, r3, r4, r5, r6, r7, r8) := h
  clear h
  replace H := Option.bind_eq_some_iff.mp H
  obtain ⟨⟨t196, t199, t200, t201, t202, t203, t204, t205⟩, A30, H⟩ := H
  replace H : (some (t196, t199, t200, t201, t202, t203, t204, t205)) = some (r1, r2, r3, r4, r5, r6, r7, r8) := H
  have A3 := Aside0.mk A30
  clear A30
  simp only [Option.some.injEq, Prod.mk.injEq] at H
  obtain ⟨rfl, rfl, rfl, rfl, rfl, rfl, rfl, rfl⟩ := H
  go_enter Try.func11, Try.ntmps11
  go_wp2_with (first | ((with_reducible refine gate_dst (N := 2) rfl ?_); refine box_event ?hg (N := 2) ?hd (cs := #[.slice A0_0 l0_0.length c0_0, .int .i64 a0_1, .int .u64 a0_2, .int .u64 a0_3, .int .u64 a0_4, .int .u64 a0_5, .bool a0_6]) (t := 27) ?hr ?_; (case hd => rfl); (case hg => rfl); (case hr => first | (go_simp; done) | (go_simp; rfl)); intro gb193 hg w4 hbox hb; have n0_ := Aside0.mk (below_step (by repeat (first | (with_reducible first | exact HB.out | apply below_alloc | apply pw_below_drewN | apply below_drew1) | exact HB.out)) hb); have n1_ := Aside0.mk (hbox); have n2_ := Aside0.mk ((by rw [hg]; exact (below_size (by repeat (first | (with_reducible first | exact HB.out | apply below_alloc | apply pw_below_drewN | apply below_drew1) | exact HB.out))) : w.heap.size ≤ gb193)); have n3_ := Aside0.mk ((by rw [hg]; exact (below_size (by repeat (first | (with_reducible first | exact HB.out | apply below_alloc | apply pw_below_drewN | apply below_drew1) | exact HB.out))) : w.heap.size ≤ gb193)); clear HB; have HB := n0_; have BK193 := n1_; have GW193 := n2_; have GE193 := n3_; clear n0_ n1_ n2_ n3_; clear hb hbox hg) | ((with_reducible refine gate_dst (N := 3) rfl ?_); refine box_event ?hg (N := 3) ?hd (cs := #[.slice A1_0 l1_0.length c1_0, .int .i64 a1_1, .int .u64 a1_2, .int .u64 a1_3, .int .u64 a1_4, .int .u64 a1_5, .bool a1_6]) (t := 27) ?hr ?_; (case hd => rfl); (case hg => rfl); (case hr => first | (go_simp; done) | (go_simp; rfl)); intro gb194 hg w5 hbox hb; have n0_ := ledger_Sub.keepB BK193 hb; have n1_ := Aside0.mk (below_step (by repeat (first | (with_reducible first | exact HB.out | apply below_alloc | apply pw_below_drewN | apply below_drew1 | refine below_set ?_ GE193.out) | exact HB.out)) hb); have n2_ := Aside0.mk (hbox); have n3_ := Aside0.mk ((by rw [hg]; exact (below_size (by repeat (first | (with_reducible first | exact HB.out | apply below_alloc | apply pw_below_drewN | apply below_drew1 | refine below_set ?_ GE193.out) | exact HB.out))) : w.heap.size ≤ gb194)); have n4_ := Aside0.mk ((by rw [hg]; exact (below_size (by repeat (first | (with_reducible first | exact HB.out | apply below_alloc | apply pw_below_drewN | apply below_drew1 | refine below_set ?_ GE193.out) | exact HB.out))) : w.heap.size ≤ gb194)); have n5_ := ledger_Sub.neL BK193 hg; have n6_ := ledger_Sub.neG BK193 hg; clear BK193; clear HB; have BK193 := n0_; have HB := n1_; have BK194 := n2_; have GW194 := n3_; have GE194 := n4_; have NB193_194 := n5_; have NB194_193 := n6_; clear n0_ n1_ n2_ n3_ n4_ n5_ n6_; clear hb hbox hg) | ((with_reducible refine gate_dst (N := 4) rfl ?_); refine box_event ?hg (N := 4) ?hd (cs := #[.slice none 0 0, .int .i64 0, .int .u64 0, .int .u64 0, .int .u64 0, .int .u64 0, .bool false]) (t := 27) ?hr ?_; (case hd => rfl); (case hg => rfl); (case hr => first | (go_simp; done) | (go_simp; rfl)); intro gb195 hg w6 hbox hb; have n0_ := ledger_Sub.keepB BK193 hb; have n1_ := ledger_Sub.keepB BK194 hb; have n2_ := Aside0.mk (below_step (by repeat (first | (with_reducible first | exact HB.out | apply below_alloc | apply pw_below_drewN | apply below_drew1 | refine below_set ?_ GE193.out | refine below_set ?_ GE194.out) | exact HB.out)) hb); have n3_ := Aside0.mk (hbox); have n4_ := Aside0.mk ((by rw [hg]; exact (below_size (by repeat (first | (with_reducible first | exact HB.out | apply below_alloc | apply pw_below_drewN | apply below_drew1 | refine below_set ?_ GE193.out | refine below_set ?_ GE194.out) | exact HB.out))) : w.heap.size ≤ gb195)); have n5_ := Aside0.mk ((by rw [hg]; exact (below_size (by repeat (first | (with_reducible first | exact HB.out | apply below_alloc | apply pw_below_drewN | apply below_drew1 | refine below_set ?_ GE193.out | refine below_set ?_ GE194.out) | exact HB.out))) : w.heap.size ≤ gb195)); have n6_ := ledger_Sub.neL BK193 hg; have n7_ := ledger_Sub.neG BK193 hg; have n8_ := ledger_Sub.neL BK194 hg; have n9_ := ledger_Sub.neG BK194 hg; clear BK193; clear BK194; clear HB; have BK193 := n0_; have BK194 := n1_; have HB := n2_; have BK195 := n3_; have GW195 := n4_; have GE195 := n5_; have NB193_195 := n6_; have NB195_193 := n7_; have NB194_195 := n8_; have NB195_194 := n9_; clear n0_ n1_ n2_ n3_ n4_ n5_ n6_ n7_ n8_ n9_; clear hb hbox hg; have hnb7 := NB193_194.out; have hnc7 := NB194_193.out; have hnb8 := NB193_195.out; have hnc8 := NB195_193.out; have hcz9_0 : w6.cell? ⟨gb193, 0, none⟩ = some (.slice A0_0 l0_0.length c0_0) := (blk_cell BK193.out 0).trans rfl; have hcz9_1 : w6.cell? ⟨gb193, 1, none⟩ = some (.int .i64 a0_1) := (blk_cell BK193.out 1).trans rfl; have hcz9_2 : w6.cell? ⟨gb193, 2, none⟩ = some (.int .u64 a0_2) := (blk_cell BK193.out 2).trans rfl; have hcz9_3 : w6.cell? ⟨gb193, 3, none⟩ = some (.int .u64 a0_3) := (blk_cell BK193.out 3).trans rfl; have hcz9_4 : w6.cell? ⟨gb193, 4, none⟩ = some (.int .u64 a0_4) := (blk_cell BK193.out 4).trans rfl; have hcz9_5 : w6.cell? ⟨gb193, 5, none⟩ = some (.int .u64 a0_5) := (blk_cell BK193.out 5).trans rfl; have hcz9_6 : w6.cell? ⟨gb193, 6, none⟩ = some (.bool a0_6) := (blk_cell BK193.out 6).trans rfl; have hfz9_0 := blk_frozen BK193.out 0; have hfz9_1 := blk_frozen BK193.out 1; have hfz9_2 := blk_frozen BK193.out 2; have hfz9_3 := blk_frozen BK193.out 3; have hfz9_4 := blk_frozen BK193.out 4; have hfz9_5 := blk_frozen BK193.out 5; have hfz9_6 := blk_frozen BK193.out 6; have hnb10 := NB194_195.out; have hnc10 := NB195_194.out; have hcz11_0 : w6.cell? ⟨gb194, 0, none⟩ = some (.slice A1_0 l1_0.length c1_0) := (blk_cell BK194.out 0).trans rfl; have hcz11_1 : w6.cell? ⟨gb194, 1, none⟩ = some (.int .i64 a1_1) := (blk_cell BK194.out 1).trans rfl; have hcz11_2 : w6.cell? ⟨gb194, 2, none⟩ = some (.int .u64 a1_2) := (blk_cell BK194.out 2).trans rfl; have hcz11_3 : w6.cell? ⟨gb194, 3, none⟩ = some (.int .u64 a1_3) := (blk_cell BK194.out 3).trans rfl; have hcz11_4 : w6.cell? ⟨gb194, 4, none⟩ = some (.int .u64 a1_4) := (blk_cell BK194.out 4).trans rfl; have hcz11_5 : w6.cell? ⟨gb194, 5, none⟩ = some (.int .u64 a1_5) := (blk_cell BK194.out 5).trans rfl; have hcz11_6 : w6.cell? ⟨gb194, 6, none⟩ = some (.bool a1_6) := (blk_cell BK194.out 6).trans rfl; have hfz11_0 := blk_frozen BK194.out 0; have hfz11_1 := blk_frozen BK194.out 1; have hfz11_2 := blk_frozen BK194.out 2; have hfz11_3 := blk_frozen BK194.out 3; have hfz11_4 := blk_frozen BK194.out 4; have hfz11_5 := blk_frozen BK194.out 5; have hfz11_6 := blk_frozen BK194.out 6) | ((with_reducible refine gate_callee (f := 17) rfl ?_); refine goesL_ (some 11) rfl rfl Try.func17 (by kernel_rfl) rfl #[.agg #[.func (.func 24) #[] #[], .func (.func 25) #[] #[]], .agg #[.slice A0_0 l0_0.length c0_0, .int .i64 a0_1, .int .u64 a0_2, .int .u64 a0_3, .int .u64 a0_4, .int .u64 a0_5, .bool a0_6], .agg #[.slice A1_0 l1_0.length c1_0, .int .i64 a1_1, .int .u64 a1_2, .int .u64 a1_3, .int .u64 a1_4, .int .u64 a1_5, .bool a1_6]] rfl (by (try simp only [List.map_toArray, List.map_cons, List.map_nil]); first | done | rfl | (simp only [List.length_drop, List.length_take]; rfl)) ?_; (with_reducible refine (ledger_way_both_f24.calls k 0 0 _ _ l0_0 a0_1 a0_2 a0_3 a0_4 a0_5 a0_6 _ _ l1_0 a1_1 a1_2 a1_3 a1_4 a1_5 a1_6 t196 t199 t200 t201 t202 t203 t204 t205 _ ?side1 ?side2 ?side3 ?side4 A3.out).mono ?_); (case side1 => repeat (first | exact (Kd.C_below HR0_0.out HB.out) | (with_reducible refine Kd.C_alloc ?_ _) | (with_reducible refine Kd.C_drewN ?_ _) | (with_reducible refine Kd.C_drew ?_))); (case side2 => exact HC0_0.out); (case side3 => repeat (first | exact (Kd.C_below HR1_0.out HB.out) | (with_reducible refine Kd.C_alloc ?_ _) | (with_reducible refine Kd.C_drewN ?_ _) | (with_reducible refine Kd.C_drew ?_))); (case side4 => exact HC1_0.out); rintro e w12 ⟨v197, rfl, ho0, hb⟩; refine ⟨_, rfl, ?_⟩; have n0_ := Aside0.mk (Kd.R_lower ho0 (below_size (by repeat (first | (with_reducible first | exact HB.out | apply below_alloc | apply pw_below_drewN | apply below_drew1 | refine below_set ?_ GE193.out | refine below_set ?_ GE194.out | refine below_set ?_ GE195.out) | exact HB.out)))); have n1_ := ledger_Sub.keepB BK193 hb; have n2_ := ledger_Sub.keepB BK194 hb; have n3_ := ledger_Sub.keepB BK195 hb; have n4_ := Aside0.mk (below_step (by repeat (first | (with_reducible first | exact HB.out | apply below_alloc | apply pw_below_drewN | apply below_drew1 | refine below_set ?_ GE193.out | refine below_set ?_ GE194.out | refine below_set ?_ GE195.out) | exact HB.out)) hb); clear BK193; clear BK194; clear BK195; clear HB; have HO198 := n0_; have BK193 := n1_; have BK194 := n2_; have BK195 := n3_; have HB := n4_; clear n0_ n1_ n2_ n3_ n4_; (try clear hb); (try clear hb2); (try clear hk); (try clear hi); (try clear ho0); obtain ⟨Ao13, co13, eo13⟩ := Kd.R_slice HO198.out; subst eo13; have hcz14_0 : w12.cell? ⟨gb195, 0, none⟩ = some (.slice none 0 0) := (blk_cell BK195.out 0).trans rfl; have hcz14_1 : w12.cell? ⟨gb195, 1, none⟩ = some (.int .i64 0) := (blk_cell BK195.out 1).trans rfl; have hcz14_2 : w12.cell? ⟨gb195, 2, none⟩ = some (.int .u64 0) := (blk_cell BK195.out 2).trans rfl; have hcz14_3 : w12.cell? ⟨gb195, 3, none⟩ = some (.int .u64 0) := (blk_cell BK195.out 3).trans rfl; have hcz14_4 : w12.cell? ⟨gb195, 4, none⟩ = some (.int .u64 0) := (blk_cell BK195.out 4).trans rfl; have hcz14_5 : w12.cell? ⟨gb195, 5, none⟩ = some (.int .u64 0) := (blk_cell BK195.out 5).trans rfl; have hcz14_6 : w12.cell? ⟨gb195, 6, none⟩ = some (.bool false) := (blk_cell BK195.out 6).trans rfl; have hfz14_0 := blk_frozen BK195.out 0; have hfz14_1 := blk_frozen BK195.out 1; have hfz14_2 := blk_frozen BK195.out 2; have hfz14_3 := blk_frozen BK195.out 3; have hfz14_4 := blk_frozen BK195.out 4; have hfz14_5 := blk_frozen BK195.out 5; have hfz14_6 := blk_frozen BK195.out 6))
  refine bodyPost_ret (results_ct rfl _ _ gb195 27 #[.slice Ao13 t196.length co13, .int .i64 t199, .int .u64 t200, .int .u64 t201, .int .u64 t202, .int .u64 t203, .bool t204] (0, 0) _ rfl (by (with_reducible repeat (first | refine blk_drewN ?_ _ | refine blk_drew ?_ | refine blk_alloc ?_ _)); refine blk_put (cs := #[.slice Ao13 t196.length co13, .int .i64 t199, .int .u64 t200, .int .u64 t201, .int .u64 t202, .int .u64 t203, .bool false]) ?_ 6 _ rfl; (with_reducible repeat (first | refine blk_drewN ?_ _ | refine blk_drew ?_ | refine blk_alloc ?_ _)); refine blk_put (cs := #[.slice Ao13 t196.length co13, .int .i64 t199, .int .u64 t200, .int .u64 t201, .int .u64 t202, .int .u64 0, .bool false]) ?_ 5 _ rfl; (with_reducible repeat (first | refine blk_drewN ?_ _ | refine blk_drew ?_ | refine blk_alloc ?_ _)); refine blk_put (cs := #[.slice Ao13 t196.length co13, .int .i64 t199, .int .u64 t200, .int .u64 t201, .int .u64 0, .int .u64 0, .bool false]) ?_ 4 _ rfl; (with_reducible repeat (first | refine blk_drewN ?_ _ | refine blk_drew ?_ | refine blk_alloc ?_ _)); refine blk_put (cs := #[.slice Ao13 t196.length co13, .int .i64 t199, .int .u64 t200, .int .u64 0, .int .u64 0, .int .u64 0, .bool false]) ?_ 3 _ rfl; (with_reducible repeat (first | refine blk_drewN ?_ _ | refine blk_drew ?_ | refine blk_alloc ?_ _)); refine blk_put (cs := #[.slice Ao13 t196.length co13, .int .i64 t199, .int .u64 0, .int .u64 0, .int .u64 0, .int .u64 0, .bool false]) ?_ 2 _ rfl; (with_reducible repeat (first | refine blk_drewN ?_ _ | refine blk_drew ?_ | refine blk_alloc ?_ _)); refine blk_put (cs := #[.slice Ao13 t196.length co13, .int .i64 0, .int .u64 0, .int .u64 0, .int .u64 0, .int .u64 0, .bool false]) ?_ 1 _ rfl; (with_reducible repeat (first | refine blk_drewN ?_ _ | refine blk_drew ?_ | refine blk_alloc ?_ _)); refine blk_put (cs := #[.slice none 0 0, .int .i64 0, .int .u64 0, .int .u64 0, .int .u64 0, .int .u64 0, .bool false]) ?_ 0 _ rfl; (with_reducible repeat (first | refine blk_drewN ?_ _ | refine blk_drew ?_ | refine blk_alloc ?_ _)); exact BK195.out) Try.underlying27 rfl (by kernel_rfl)) rfl ?_
  exact ⟨_, by first | rfl | (simp [errW_none, errW_some] <;> rfl) | (simp [*, errW_none, errW_some] <;> rfl), by (with_reducible repeat (first | apply Kd.R_alloc | apply Kd.R_drewN | apply Kd.R_drew)); exact Kd.R_mono (Kd.R_far (p := ⟨gb195, 6, none⟩) (Kd.R_far (p := ⟨gb195, 5, none⟩) (Kd.R_far (p := ⟨gb195, 4, none⟩) (Kd.R_far (p := ⟨gb195, 3, none⟩) (Kd.R_far (p := ⟨gb195, 2, none⟩) (Kd.R_far (p := ⟨gb195, 1, none⟩) (Kd.R_far (p := ⟨gb195, 0, none⟩) (Kd.R_types HO198.out BK195.out (by decide)) (fun _ hk => hk.2) (.slice Ao13 t196.length co13)) (fun _ hk => hk.2) (.int .i64 t199)) (fun _ hk => hk.2) (.int .u64 t200)) (fun _ hk => hk.2) (.int .u64 t201)) (fun _ hk => hk.2) (.int .u64 t202)) (fun _ hk => hk.2) (.int .u64 t203)) (fun _ hk => hk.2) (.bool t204)) (fun _ hk => trivial), by repeat (first | (with_reducible first | exact HB.out | apply below_alloc | apply pw_below_drewN | apply below_drew1 | refine below_set ?_ GE193.out | refine below_set ?_ GE194.out | refine below_set ?_ GE195.out) | exact HB.out)⟩

theorem ledger_Sum.keepB {W0 W w1 : World} {g : Nat} {o : Obj} (h : Aside0 (W0.heap[g]? = some o)) (hb : Below W.heap.size W w1) (hs : W0.heap[g]? = some o → W.heap[g]? = some o := by intro h_; (with_reducible repeat (first | refine blk_drewN ?_ _ | refine blk_drew ?_ | refine blk_alloc ?_ _)); exact h_) : Aside0 (w1.heap[g]? = some o) := ⟨(hb.block g (blk_lt (hs h.out))).trans (hs h.out)⟩
theorem ledger_Sum.neL {W0 W : World} {g gb : Nat} {o : Obj} (h : Aside0 (W0.heap[g]? = some o)) (hg : gb = W.heap.size) (hs : W0.heap[g]? = some o → W.heap[g]? = some o := by intro h_; (with_reducible repeat (first | refine blk_drewN ?_ _ | refine blk_drew ?_ | refine blk_alloc ?_ _)); exact h_) : Aside0 (g ≠ gb) := ⟨by rw [hg]; exact Nat.ne_of_lt (blk_lt (hs h.out))⟩
theorem ledger_Sum.neG {W0 W : World} {g gb : Nat} {o : Obj} (h : Aside0 (W0.heap[g]? = some o)) (hg : gb = W.heap.size) (hs : W0.heap[g]? = some o → W.heap[g]? = some o := by intro h_; (with_reducible repeat (first | refine blk_drewN ?_ _ | refine blk_drew ?_ | refine blk_alloc ?_ _)); exact h_) : Aside0 (gb ≠ g) := ⟨by rw [hg]; exact Nat.ne_of_gt (blk_lt (hs h.out))⟩
/-! ### ledger_Sum: function 12 -/
mutual
def ledger_Sum.j0 : Nat → Int → List (S27) → Bool → Option (List Int × Int × Int × Int × Int × Int × Bool × Int)
  | 0, _, _, _ => none
  | k + 1, x0, x1, x18 => if x18 = true then (some (([] : List Int), 0, 0, 0, 0, 0, false, 1)) else (ledger_Sum.l0 k x0 x1 x1 (x1.length : Int) 0)
def ledger_Sum.l0 : Nat → Int → List (S27) → List (S27) → Int → Int → Option (List Int × Int × Int × Int × Int × Int × Bool × Int)
  | 0, _, _, _, _, _ => none
  | k + 1, x0, x1, x20, x21, x22 => if x22 < x21 then (if 0 ≤ x22 then (if x22 < (x20.length : Int) then (if (((rd_T27 x20 x22).f0).length : Int) = x0 then (ledger_Sum.l0 k x0 x1 x20 x21 (wrap64 (x22 + 1))) else (some (([] : List Int), 0, 0, 0, 0, 0, false, 1))) else (none)) else (none)) else (if 0 ≤ x0 then (if (x0 : Int).toNat ≤ 35184372088832 then (ledger_Sum.l1 k x1 (x1.length : Int) 0 (List.replicate (x0 : Int).toNat 0) 0 0 0 0 0 false) else (none)) else (none))
def ledger_Sum.l1 : Nat → List (S27) → Int → Int → List Int → Int → Int → Int → Int → Int → Bool → Option (List Int × Int × Int × Int × Int × Int × Bool × Int)
  | 0, _, _, _, _, _, _, _, _, _, _ => none
  | k + 1, x36, x37, x38, x213000, x213001, x213002, x213003, x213004, x213005, x213006 => if x38 < x37 then (if 0 ≤ x38 then (if x38 < (x36.length : Int) then ((ledger_Add.f k x213000 x213001 x213002 x213003 x213004 x213005 x213006 ((rd_T27 x36 x38).f0) ((rd_T27 x36 x38).f1) ((rd_T27 x36 x38).f2.f0) ((rd_T27 x36 x38).f2.f1) ((rd_T27 x36 x38).f3.f0) ((rd_T27 x36 x38).f3.f1) ((rd_T27 x36 x38).f4)).bind fun bt215 => (if bt215.2.2.2.2.2.2.2 = 0 then (ledger_Sum.l1 k x36 x37 (wrap64 (x38 + 1)) bt215.1 bt215.2.1 bt215.2.2.1 bt215.2.2.2.1 bt215.2.2.2.2.1 bt215.2.2.2.2.2.1 bt215.2.2.2.2.2.2.1) else (some (([] : List Int), 0, 0, 0, 0, 0, false, bt215.2.2.2.2.2.2.2)))) else (none)) else (none)) else (some (x213000, x213001, x213002, x213003, x213004, x213005, x213006, 0))
end
def ledger_Sum.f (k : Nat) (a0 : Int) (l1 : List (S27)) : Option (List Int × Int × Int × Int × Int × Int × Bool × Int) := if a0 < 0 then (ledger_Sum.j0 k a0 l1 true) else (ledger_Sum.j0 k a0 l1 (decide (a0 > 256)))
theorem ledger_Sum.mono_l : ∀ k, (∀ y0 y1 y2, LeO (ledger_Sum.j0 k y0 y1 y2) (ledger_Sum.j0 (k + 1) y0 y1 y2)) ∧ (∀ y0 y1 y2 y3 y4, LeO (ledger_Sum.l0 k y0 y1 y2 y3 y4) (ledger_Sum.l0 (k + 1) y0 y1 y2 y3 y4)) ∧ (∀ y0 y1 y2 y3 y4 y5 y6 y7 y8 y9, LeO (ledger_Sum.l1 k y0 y1 y2 y3 y4 y5 y6 y7 y8 y9) (ledger_Sum.l1 (k + 1) y0 y1 y2 y3 y4 y5 y6 y7 y8 y9))
  | 0 => ⟨fun _ _ _ r h => by simp [ledger_Sum.j0] at h, fun _ _ _ _ _ r h => by simp [ledger_Sum.l0] at h, fun _ _ _ _ _ _ _ _ _ _ r h => by simp [ledger_Sum.l1] at h⟩
  | k + 1 => by
    obtain ⟨ih0, ih1, ih2⟩ := ledger_Sum.mono_l k
    refine ⟨?_, ?_, ?_⟩
    · intro y0 y1 y2
      unfold ledger_Sum.j0
      repeat' first
      | (with_reducible exact ih0 _ _ _)
      | (with_reducible exact ih1 _ _ _ _ _)
      | (with_reducible exact ih2 _ _ _ _ _ _ _ _ _ _)
      | (with_reducible exact ledger_Add.mono _ _ _ _ _ _ _ _ _ _ _ _ _ _ _)
      | (with_reducible exact LeO.refl _)
      | (with_reducible exact LeO.none _)
      | (with_reducible refine LeO.ite ?_ ?_)
      | (with_reducible refine LeO.bind ?_ (fun _ => ?_))
      | exact ih0 _ _ _
      | exact ih1 _ _ _ _ _
      | exact ih2 _ _ _ _ _ _ _ _ _ _
      | exact ledger_Add.mono _ _ _ _ _ _ _ _ _ _ _ _ _ _ _
      | exact LeO.none _
      | refine LeO.ite ?_ ?_
      | refine LeO.bind ?_ (fun _ => ?_)
    · intro y0 y1 y2 y3 y4
      unfold ledger_Sum.l0
      repeat' first
      | (with_reducible exact ih0 _ _ _)
      | (with_reducible exact ih1 _ _ _ _ _)
      | (with_reducible exact ih2 _ _ _ _ _ _ _ _ _ _)
      | (with_reducible exact ledger_Add.mono _ _ _ _ _ _ _ _ _ _ _ _ _ _ _)
      | (with_reducible exact LeO.refl _)
      | (with_reducible exact LeO.none _)
      | (with_reducible refine LeO.ite ?_ ?_)
      | (with_reducible refine LeO.bind ?_ (fun _ => ?_))
      | exact ih0 _ _ _
      | exact ih1 _ _ _ _ _
      | exact ih2 _ _ _ _ _ _ _ _ _ _
      | exact ledger_Add.mono _ _ _ _ _ _ _ _ _ _ _ _ _ _ _
      | exact LeO.none _
      | refine LeO.ite ?_ ?_
      | refine LeO.bind ?_ (fun _ => ?_)
    · intro y0 y1 y2 y3 y4 y5 y6 y7 y8 y9
      unfold ledger_Sum.l1
      repeat' first
      | (with_reducible exact ih0 _ _ _)
      | (with_reducible exact ih1 _ _ _ _ _)
      | (with_reducible exact ih2 _ _ _ _ _ _ _ _ _ _)
      | (with_reducible exact ledger_Add.mono _ _ _ _ _ _ _ _ _ _ _ _ _ _ _)
      | (with_reducible exact LeO.refl _)
      | (with_reducible exact LeO.none _)
      | (with_reducible refine LeO.ite ?_ ?_)
      | (with_reducible refine LeO.bind ?_ (fun _ => ?_))
      | exact ih0 _ _ _
      | exact ih1 _ _ _ _ _
      | exact ih2 _ _ _ _ _ _ _ _ _ _
      | exact ledger_Add.mono _ _ _ _ _ _ _ _ _ _ _ _ _ _ _
      | exact LeO.none _
      | refine LeO.ite ?_ ?_
      | refine LeO.bind ?_ (fun _ => ?_)
theorem ledger_Sum.mono : ∀ a0 a1 k, LeO (ledger_Sum.f k a0 a1) (ledger_Sum.f (k + 1) a0 a1) := by
  intro a0 a1 k
  obtain ⟨ih0, ih1, ih2⟩ := ledger_Sum.mono_l k
  unfold ledger_Sum.f
  repeat' first
      | (with_reducible exact ih0 _ _ _)
      | (with_reducible exact ih1 _ _ _ _ _)
      | (with_reducible exact ih2 _ _ _ _ _ _ _ _ _ _)
      | (with_reducible exact ledger_Add.mono _ _ _ _ _ _ _ _ _ _ _ _ _ _ _)
      | (with_reducible exact LeO.refl _)
      | (with_reducible exact LeO.none _)
      | (with_reducible refine LeO.ite ?_ ?_)
      | (with_reducible refine LeO.bind ?_ (fun _ => ?_))
      | exact ih0 _ _ _
      | exact ih1 _ _ _ _ _
      | exact ih2 _ _ _ _ _ _ _ _ _ _
      | exact ledger_Add.mono _ _ _ _ _ _ _ _ _ _ _ _ _ _ _
      | exact LeO.none _
      | refine LeO.ite ?_ ?_
      | refine LeO.bind ?_ (fun _ => ?_)
set_option maxHeartbeats 8000000 in
set_option maxRecDepth 100000 in
theorem ledger_Sum.calls (k : Nat) (a0 : Int) (A1 : Option Addr) (c1 : Nat) (l1 : List (S27)) (r1 : List Int) (r2 : Int) (r3 : Int) (r4 : Int) (r5 : Int) (r6 : Int) (r7 : Bool) (r8 : Int) (w : World) (hr1 : Kd.C k27 w A1 l1.length l1) (hc1 : l1.length ≤ c1) (h : ledger_Sum.f k a0 l1 = some (r1, r2, r3, r4, r5, r6, r7, r8)) :
    Calls Try.prog 12 #[.int .i64 a0, .slice A1 l1.length c1] w fun e w' => ∃ v0_ : Value, e = .returned (.tuple #[.agg #[v0_, .int .i64 r2, .int .u64 r3, .int .u64 r4, .int .u64 r5, .int .u64 r6, .bool r7], .int .i64 r8]) ∧ Kd.R (Kd.int .i64) 3 w' w.heap.size (fun _ => True) v0_ r1 ∧ Below w.heap.size w w' := by
  have hu27 := Try.underlying27
  have HR1 := Aside0.mk hr1
  have HC1 := Aside0.mk hc1
  clear hr1 hc1
  have HB := Aside0.mk (Below.refl w.heap.size w)
  have H : (if a0 < 0 then (ledger_Sum.j0 k a0 l1 true) else (ledger_Sum.j0 k a0 l1 (decide (a0 > 256)))) = some (r1, r2, r3, r4, r5, r6, r7, r8) := h
  clear h
  have HC3 := Aside0.mk H
  clear H
  go_enter Try.func12, Try.ntmps12
  go_upto_region 1 with (first | ((with_reducible refine gate_dst (N := 4) rfl ?_); refine box_event ?hg (N := 4) ?hd (cs := #[.slice none 0 0, .int .i64 0, .int .u64 0, .int .u64 0, .int .u64 0, .int .u64 0, .bool false]) (t := 27) ?hr ?_; (case hd => rfl); (case hg => rfl); (case hr => first | (go_simp; done) | (go_simp; rfl)); intro gb206 hg w4 hbox hb; have n0_ := Aside0.mk (below_step (by repeat (first | (with_reducible first | exact HB.out | apply below_alloc | apply pw_below_drewN | apply below_drew1) | exact HB.out)) hb); have n1_ := Aside0.mk (hbox); have n2_ := Aside0.mk ((by rw [hg]; exact (below_size (by repeat (first | (with_reducible first | exact HB.out | apply below_alloc | apply pw_below_drewN | apply below_drew1) | exact HB.out))) : w.heap.size ≤ gb206)); have n3_ := Aside0.mk ((by rw [hg]; exact (below_size (by repeat (first | (with_reducible first | exact HB.out | apply below_alloc | apply pw_below_drewN | apply below_drew1) | exact HB.out))) : w.heap.size ≤ gb206)); clear HB; have HB := n0_; have BK206 := n1_; have GW206 := n2_; have GE206 := n3_; clear n0_ n1_ n2_ n3_; clear hb hbox hg))
  (try simp only [Act.put, List.setIfInBounds_toArray, List.set_cons_zero, List.set_cons_succ])
  go_cut [18] (fun v18 wc => ∃ (kq : Nat) (x18_2 : Bool), v18 = .bool x18_2 ∧ Aside0 (ledger_Sum.j0 kq a0 l1 x18_2 = some (r1, r2, r3, r4, r5, r6, r7, r8)) ∧ Aside0 (kq ≤ k) ∧ Aside0 (wc.heap[gb206]? = some (.cells #[(.slice none 0 0), .int .i64 0, .int .u64 0, .int .u64 0, .int .u64 0, .int .u64 0, .bool false] 27 (0, 0))) ∧ Aside0 (Below w.heap.size w wc))
  case first =>
    have H := HC3.out
    clear HC3
    by_cases c5 : a0 < 0
    · rw [if_pos c5] at H
      have c5b0 : decide (a0 < 0) = true := decide_eq_true c5
      clear c5
      (first | rw [c5b0] | (simp only [i64_w, i32_w]; rw [c5b0]) | skip)
      have H' := Aside0.mk H
      clear H
      go_wp2
      go_meet
      case rel => exact ⟨_, (true), (by first | rfl | (simp; done) | (simp [*]; done)), H', ⟨by first | omega | exact Nat.le_refl _⟩, ⟨by (with_reducible repeat (first | refine blk_drewN ?_ _ | refine blk_drew ?_ | refine blk_alloc ?_ _)); exact BK206.out⟩, ⟨by repeat (first | (with_reducible first | exact HB.out | apply below_alloc | apply pw_below_drewN | apply below_drew1 | refine below_set ?_ GE206.out) | exact HB.out)⟩⟩
    · rw [if_neg c5] at H
      have c5b0 : decide (a0 < 0) = false := decide_eq_false c5
      clear c5
      (first | rw [c5b0] | (simp only [i64_w, i32_w]; rw [c5b0]) | skip)
      have H' := Aside0.mk H
      clear H
      go_wp2
      go_meet
      case rel => exact ⟨_, (decide (a0 > 256)), (by first | rfl | (simp; done) | (simp [*]; done)), H', ⟨by first | omega | exact Nat.le_refl _⟩, ⟨by (with_reducible repeat (first | refine blk_drewN ?_ _ | refine blk_drew ?_ | refine blk_alloc ?_ _)); exact BK206.out⟩, ⟨by repeat (first | (with_reducible first | exact HB.out | apply below_alloc | apply pw_below_drewN | apply below_drew1 | refine below_set ?_ GE206.out) | exact HB.out)⟩⟩
  case rest =>
    clear HC3
    try clear c1
    try clear p2
    try clear c5
    try clear c5b0
    obtain ⟨kq, x18_2, rfl, HA, HJ2, BK206, HB⟩ := hcut
    cases kq with
    | zero => exact absurd HA.out (by simp [ledger_Sum.j0])
    | succ kj2 =>
      have H := HA.out
      clear HA
      simp only [ledger_Sum.j0] at H
      by_cases c6 : x18_2 = true
      · subst c6
        have H1 : (some (([] : List Int), 0, 0, 0, 0, 0, false, 1)) = some (r1, r2, r3, r4, r5, r6, r7, r8) := by rw [if_pos rfl] at H; exact H
        clear H
        have H := H1
        clear H1
        simp only [Option.some.injEq, Prod.mk.injEq] at H
        obtain ⟨rfl, rfl, rfl, rfl, rfl, rfl, rfl, rfl⟩ := H
        have hcz7_0 : wc.cell? ⟨gb206, 0, none⟩ = some (.slice none 0 0) := (blk_cell BK206.out 0).trans rfl
        have hcz7_1 : wc.cell? ⟨gb206, 1, none⟩ = some (.int .i64 0) := (blk_cell BK206.out 1).trans rfl
        have hcz7_2 : wc.cell? ⟨gb206, 2, none⟩ = some (.int .u64 0) := (blk_cell BK206.out 2).trans rfl
        have hcz7_3 : wc.cell? ⟨gb206, 3, none⟩ = some (.int .u64 0) := (blk_cell BK206.out 3).trans rfl
        have hcz7_4 : wc.cell? ⟨gb206, 4, none⟩ = some (.int .u64 0) := (blk_cell BK206.out 4).trans rfl
        have hcz7_5 : wc.cell? ⟨gb206, 5, none⟩ = some (.int .u64 0) := (blk_cell BK206.out 5).trans rfl
        have hcz7_6 : wc.cell? ⟨gb206, 6, none⟩ = some (.bool false) := (blk_cell BK206.out 6).trans rfl
        have hfz7_0 := blk_frozen BK206.out 0
        have hfz7_1 := blk_frozen BK206.out 1
        have hfz7_2 := blk_frozen BK206.out 2
        have hfz7_3 := blk_frozen BK206.out 3
        have hfz7_4 := blk_frozen BK206.out 4
        have hfz7_5 := blk_frozen BK206.out 5
        have hfz7_6 := blk_frozen BK206.out 6
        go_wp2
        refine bodyPost_ret (results_ct rfl _ _ gb206 27 #[.slice none 0 0, .int .i64 0, .int .u64 0, .int .u64 0, .int .u64 0, .int .u64 0, .bool false] (0, 0) _ rfl (by (with_reducible repeat (first | refine blk_drewN ?_ _ | refine blk_drew ?_ | refine blk_alloc ?_ _)); refine blk_put (cs := #[.slice none 0 0, .int .i64 0, .int .u64 0, .int .u64 0, .int .u64 0, .int .u64 0, .bool false]) ?_ 6 _ rfl; (with_reducible repeat (first | refine blk_drewN ?_ _ | refine blk_drew ?_ | refine blk_alloc ?_ _)); refine blk_put (cs := #[.slice none 0 0, .int .i64 0, .int .u64 0, .int .u64 0, .int .u64 0, .int .u64 0, .bool false]) ?_ 5 _ rfl; (with_reducible repeat (first | refine blk_drewN ?_ _ | refine blk_drew ?_ | refine blk_alloc ?_ _)); refine blk_put (cs := #[.slice none 0 0, .int .i64 0, .int .u64 0, .int .u64 0, .int .u64 0, .int .u64 0, .bool false]) ?_ 4 _ rfl; (with_reducible repeat (first | refine blk_drewN ?_ _ | refine blk_drew ?_ | refine blk_alloc ?_ _)); refine blk_put (cs := #[.slice none 0 0, .int .i64 0, .int .u64 0, .int .u64 0, .int .u64 0, .int .u64 0, .bool false]) ?_ 3 _ rfl; (with_reducible repeat (first | refine blk_drewN ?_ _ | refine blk_drew ?_ | refine blk_alloc ?_ _)); refine blk_put (cs := #[.slice none 0 0, .int .i64 0, .int .u64 0, .int .u64 0, .int .u64 0, .int .u64 0, .bool false]) ?_ 2 _ rfl; (with_reducible repeat (first | refine blk_drewN ?_ _ | refine blk_drew ?_ | refine blk_alloc ?_ _)); refine blk_put (cs := #[.slice none 0 0, .int .i64 0, .int .u64 0, .int .u64 0, .int .u64 0, .int .u64 0, .bool false]) ?_ 1 _ rfl; (with_reducible repeat (first | refine blk_drewN ?_ _ | refine blk_drew ?_ | refine blk_alloc ?_ _)); refine blk_put (cs := #[.slice none 0 0, .int .i64 0, .int .u64 0, .int .u64 0, .int .u64 0, .int .u64 0, .bool false]) ?_ 0 _ rfl; (with_reducible repeat (first | refine blk_drewN ?_ _ | refine blk_drew ?_ | refine blk_alloc ?_ _)); exact BK206.out) Try.underlying27 rfl (by kernel_rfl)) rfl ?_
        exact ⟨_, by first | rfl | (simp [errW_none, errW_some] <;> rfl) | (simp [*, errW_none, errW_some] <;> rfl), by first | exact Kd.R_nil _ _ _ _ _ | exact Kd.N_nil _ _ _ _ _ | exact Kd.V_nil _ _ _ _ _ | exact Kd.Q_nil _ _ _ _ _ | exact Kd.S_nil _ _ _ _ _, by repeat (first | (with_reducible first | exact HB.out | apply below_alloc | apply pw_below_drewN | apply below_drew1 | refine below_set ?_ GE206.out) | exact HB.out)⟩
      · replace c6 := Bool.eq_false_iff.mpr c6
        subst c6
        have H1 : (ledger_Sum.l0 kj2 a0 l1 l1 (l1.length : Int) 0) = some (r1, r2, r3, r4, r5, r6, r7, r8) := by rw [if_neg (show ¬ (false = true) by decide)] at H; exact H
        clear H
        have H := H1
        clear H1
        have H' := Aside0.mk H
        clear H
        go_wp2
        go_loopg [22] kj2 (fun kq v22 w' => ∃ (x22_2 : Int) (x207001_2 : Int) (x207002_2 : Int) (x207003_2 : Int) (x207004_2 : Int) (x207005_2 : Int) (x207006_2 : Bool), v22 = .int .i64 x22_2 ∧ Aside0 (ledger_Sum.l0 kq a0 l1 l1 (l1.length : Int) x22_2 = some (r1, r2, r3, r4, r5, r6, r7, r8)) ∧ Aside0 (kq ≤ kj2) ∧ Aside0 (w'.heap[gb206]? = some (.cells #[(.slice none 0 0), .int .i64 x207001_2, .int .u64 x207002_2, .int .u64 x207003_2, .int .u64 x207004_2, .int .u64 x207005_2, .bool x207006_2] 27 (0, 0))) ∧ Aside0 (Below w.heap.size w w'))
        case atStart => exact ⟨(0), (0), (0), (0), (0), (0), (false), (by first | rfl | (simp; done) | (simp [*]; done)), H', ⟨Nat.le_refl _⟩, ⟨by (with_reducible repeat (first | refine blk_drewN ?_ _ | refine blk_drew ?_ | refine blk_alloc ?_ _)); exact BK206.out⟩, ⟨by repeat (first | (with_reducible first | exact HB.out | apply below_alloc | apply pw_below_drewN | apply below_drew1 | refine below_set ?_ GE206.out) | exact HB.out)⟩⟩
        case round =>
          clear H'
          try clear c1
          try clear p2
          try clear c5
          try clear c5b0
          try clear c6
          try clear hcz7_0
          try clear hcz7_1
          try clear hcz7_2
          try clear hcz7_3
          try clear hcz7_4
          try clear hcz7_5
          try clear hcz7_6
          try clear hfz7_0
          try clear hfz7_1
          try clear hfz7_2
          try clear hfz7_3
          try clear hfz7_4
          try clear hfz7_5
          try clear hfz7_6
          try clear p2
          obtain ⟨x22_2, x207001_2, x207002_2, x207003_2, x207004_2, x207005_2, x207006_2, rfl, HA, HK2, BK206, HB⟩ := hrel
          cases gk with
          | zero => exact absurd HA.out (by simp [ledger_Sum.l0])
          | succ k2 =>
            have H := HA.out
            clear HA
            simp only [ledger_Sum.l0] at H
            by_cases c8 : x22_2 < (l1.length : Int)
            · rw [if_pos c8] at H
              have c8b0 : decide (x22_2 < (l1.length : Int)) = true := decide_eq_true c8
              clear c8
              by_cases c9 : 0 ≤ x22_2
              · rw [if_pos c9] at H
                have c9b0 : decide (0 ≤ x22_2) = true := decide_eq_true c9
                clear c9
                by_cases c10 : x22_2 < (l1.length : Int)
                · rw [if_pos c10] at H
                  have c10b0 : decide (x22_2 < (l1.length : Int)) = true := decide_eq_true c10
                  clear c10
                  by_cases c11 : (((rd_T27 l1 x22_2).f0).length : Int) = a0
                  · rw [if_pos c11] at H
                    have c11b0 : ((((rd_T27 l1 x22_2).f0).length : Int) == a0) = true := beq_iff_eq.mpr c11
                    have c11b1 : ((((rd_T27 l1 x22_2).f0).length : Int) != a0) = false := bne_eq_false_iff_eq.mpr c11
                    clear c11
                    have H' := Aside0.mk H
                    clear H
                    have p207 : 0 ≤ (x22_2 : Int) := of_decide_eq_true (by first | (with_reducible assumption) | assumption)
                    have q207 : x22_2 < (l1.length : Int) := of_decide_eq_true (by first | (with_reducible assumption) | assumption)
                    obtain ⟨ad207, A207_0, c207_0, e207, hx207_0, hx207_1, hx207_2, hx207_3, hx207_4, hx207_5, hx207_6, hl207_0, hi207_0⟩ := at_T27 HR1.out x22_2 p207 q207
                    cases e207
                    replace hx207_0 := (HB.out.cell (World.block_lt_of_cell? w _ hx207_0)).trans hx207_0
                    replace hx207_1 := (HB.out.cell (World.block_lt_of_cell? w _ hx207_1)).trans hx207_1
                    replace hx207_2 := (HB.out.cell (World.block_lt_of_cell? w _ hx207_2)).trans hx207_2
                    replace hx207_3 := (HB.out.cell (World.block_lt_of_cell? w _ hx207_3)).trans hx207_3
                    replace hx207_4 := (HB.out.cell (World.block_lt_of_cell? w _ hx207_4)).trans hx207_4
                    replace hx207_5 := (HB.out.cell (World.block_lt_of_cell? w _ hx207_5)).trans hx207_5
                    replace hx207_6 := (HB.out.cell (World.block_lt_of_cell? w _ hx207_6)).trans hx207_6
                    have HR207_0 := Aside0.mk hi207_0
                    have HC207_0 := Aside0.mk hl207_0
                    clear hi207_0 hl207_0
                    replace p207 := eq_true p207
                    replace q207 := eq_true q207
                    go_wp2_with (first | ((with_reducible refine gate_dst (N := 7) rfl ?_); refine box_event ?hg (N := 7) ?hd (cs := #[.slice none 0 0, .int .i64 0, .int .u64 0, .int .u64 0, .int .u64 0, .int .u64 0, .bool false]) (t := 27) ?hr ?_; (case hd => rfl); (case hg => rfl); (case hr => first | (go_simp; done) | (go_simp; rfl)); intro gb208 hg w12 hbox hb; have n0_ := ledger_Sum.keepB BK206 hb; have n1_ := Aside0.mk (below_step (by repeat (first | (with_reducible first | exact HB.out | apply below_alloc | apply pw_below_drewN | apply below_drew1 | refine below_set ?_ GE206.out) | exact HB.out)) hb); have n2_ := Aside0.mk (hbox); have n3_ := Aside0.mk ((by rw [hg]; exact (below_size (by repeat (first | (with_reducible first | exact HB.out | apply below_alloc | apply pw_below_drewN | apply below_drew1 | refine below_set ?_ GE206.out) | exact HB.out))) : w.heap.size ≤ gb208)); have n4_ := Aside0.mk ((by rw [hg]; exact (below_size (by repeat (first | (with_reducible first | exact HB.out | apply below_alloc | apply pw_below_drewN | apply below_drew1 | refine below_set ?_ GE206.out) | exact HB.out))) : w.heap.size ≤ gb208)); have n5_ := ledger_Sum.neL BK206 hg; have n6_ := ledger_Sum.neG BK206 hg; clear BK206; clear HB; have BK206 := n0_; have HB := n1_; have BK208 := n2_; have GW208 := n3_; have GE208 := n4_; have NB206_208 := n5_; have NB208_206 := n6_; clear n0_ n1_ n2_ n3_ n4_ n5_ n6_; clear hb hbox hg; have hnb13 := NB208_206.out; have hnc13 := NB206_208.out; have hcz14_0 : w12.cell? ⟨gb208, 0, none⟩ = some (.slice none 0 0) := (blk_cell BK208.out 0).trans rfl; have hcz14_1 : w12.cell? ⟨gb208, 1, none⟩ = some (.int .i64 0) := (blk_cell BK208.out 1).trans rfl; have hcz14_2 : w12.cell? ⟨gb208, 2, none⟩ = some (.int .u64 0) := (blk_cell BK208.out 2).trans rfl; have hcz14_3 : w12.cell? ⟨gb208, 3, none⟩ = some (.int .u64 0) := (blk_cell BK208.out 3).trans rfl; have hcz14_4 : w12.cell? ⟨gb208, 4, none⟩ = some (.int .u64 0) := (blk_cell BK208.out 4).trans rfl; have hcz14_5 : w12.cell? ⟨gb208, 5, none⟩ = some (.int .u64 0) := (blk_cell BK208.out 5).trans rfl; have hcz14_6 : w12.cell? ⟨gb208, 6, none⟩ = some (.bool false) := (blk_cell BK208.out 6).trans rfl; have hfz14_0 := blk_frozen BK208.out 0; have hfz14_1 := blk_frozen BK208.out 1; have hfz14_2 := blk_frozen BK208.out 2; have hfz14_3 := blk_frozen BK208.out 3; have hfz14_4 := blk_frozen BK208.out 4; have hfz14_5 := blk_frozen BK208.out 5; have hfz14_6 := blk_frozen BK208.out 6))
                    go_roundg k2
                    case measure => have := HJ2.out; have := HK2.out; omega
                    case rel => exact ⟨(wrap64 (x22_2 + 1)), (x207001_2), (x207002_2), (x207003_2), (x207004_2), (x207005_2), (x207006_2), (by first | rfl | (simp; done) | (simp [*]; done)), H', ⟨by have := HJ2.out; have := HK2.out; omega⟩, ⟨by (repeat (first | (with_reducible first | refine blk_drewN ?_ _ | refine blk_drew ?_ | refine blk_alloc ?_ _) | refine blk_far ?_ NB206_208.out _)); (with_reducible repeat (first | refine blk_drewN ?_ _ | refine blk_drew ?_ | refine blk_alloc ?_ _)); exact BK206.out⟩, ⟨by repeat (first | (with_reducible first | exact HB.out | apply below_alloc | apply pw_below_drewN | apply below_drew1 | refine below_set ?_ GE206.out | refine below_set ?_ GE208.out) | exact HB.out)⟩⟩
                  · rw [if_neg c11] at H
                    have c11b0 : ((((rd_T27 l1 x22_2).f0).length : Int) == a0) = false := beq_eq_false_iff_ne.mpr c11
                    have c11b1 : ((((rd_T27 l1 x22_2).f0).length : Int) != a0) = true := bne_iff_ne.mpr c11
                    simp only [Option.some.injEq, Prod.mk.injEq] at H
                    obtain ⟨rfl, rfl, rfl, rfl, rfl, rfl, rfl, rfl⟩ := H
                    have p207 : 0 ≤ (x22_2 : Int) := of_decide_eq_true (by first | (with_reducible assumption) | assumption)
                    have q207 : x22_2 < (l1.length : Int) := of_decide_eq_true (by first | (with_reducible assumption) | assumption)
                    obtain ⟨ad207, A207_0, c207_0, e207, hx207_0, hx207_1, hx207_2, hx207_3, hx207_4, hx207_5, hx207_6, hl207_0, hi207_0⟩ := at_T27 HR1.out x22_2 p207 q207
                    cases e207
                    replace hx207_0 := (HB.out.cell (World.block_lt_of_cell? w _ hx207_0)).trans hx207_0
                    replace hx207_1 := (HB.out.cell (World.block_lt_of_cell? w _ hx207_1)).trans hx207_1
                    replace hx207_2 := (HB.out.cell (World.block_lt_of_cell? w _ hx207_2)).trans hx207_2
                    replace hx207_3 := (HB.out.cell (World.block_lt_of_cell? w _ hx207_3)).trans hx207_3
                    replace hx207_4 := (HB.out.cell (World.block_lt_of_cell? w _ hx207_4)).trans hx207_4
                    replace hx207_5 := (HB.out.cell (World.block_lt_of_cell? w _ hx207_5)).trans hx207_5
                    replace hx207_6 := (HB.out.cell (World.block_lt_of_cell? w _ hx207_6)).trans hx207_6
                    have HR207_0 := Aside0.mk hi207_0
                    have HC207_0 := Aside0.mk hl207_0
                    clear hi207_0 hl207_0
                    replace p207 := eq_true p207
                    replace q207 := eq_true q207
                    go_wp2_with (first | ((with_reducible refine gate_dst (N := 7) rfl ?_); refine box_event ?hg (N := 7) ?hd (cs := #[.slice none 0 0, .int .i64 0, .int .u64 0, .int .u64 0, .int .u64 0, .int .u64 0, .bool false]) (t := 27) ?hr ?_; (case hd => rfl); (case hg => rfl); (case hr => first | (go_simp; done) | (go_simp; rfl)); intro gb208 hg w15 hbox hb; have n0_ := ledger_Sum.keepB BK206 hb; have n1_ := Aside0.mk (below_step (by repeat (first | (with_reducible first | exact HB.out | apply below_alloc | apply pw_below_drewN | apply below_drew1 | refine below_set ?_ GE206.out) | exact HB.out)) hb); have n2_ := Aside0.mk (hbox); have n3_ := Aside0.mk ((by rw [hg]; exact (below_size (by repeat (first | (with_reducible first | exact HB.out | apply below_alloc | apply pw_below_drewN | apply below_drew1 | refine below_set ?_ GE206.out) | exact HB.out))) : w.heap.size ≤ gb208)); have n4_ := Aside0.mk ((by rw [hg]; exact (below_size (by repeat (first | (with_reducible first | exact HB.out | apply below_alloc | apply pw_below_drewN | apply below_drew1 | refine below_set ?_ GE206.out) | exact HB.out))) : w.heap.size ≤ gb208)); have n5_ := ledger_Sum.neL BK206 hg; have n6_ := ledger_Sum.neG BK206 hg; clear BK206; clear HB; have BK206 := n0_; have HB := n1_; have BK208 := n2_; have GW208 := n3_; have GE208 := n4_; have NB206_208 := n5_; have NB208_206 := n6_; clear n0_ n1_ n2_ n3_ n4_ n5_ n6_; clear hb hbox hg; have hnb16 := NB208_206.out; have hnc16 := NB206_208.out; have hcz17_0 : w15.cell? ⟨gb208, 0, none⟩ = some (.slice none 0 0) := (blk_cell BK208.out 0).trans rfl; have hcz17_1 : w15.cell? ⟨gb208, 1, none⟩ = some (.int .i64 0) := (blk_cell BK208.out 1).trans rfl; have hcz17_2 : w15.cell? ⟨gb208, 2, none⟩ = some (.int .u64 0) := (blk_cell BK208.out 2).trans rfl; have hcz17_3 : w15.cell? ⟨gb208, 3, none⟩ = some (.int .u64 0) := (blk_cell BK208.out 3).trans rfl; have hcz17_4 : w15.cell? ⟨gb208, 4, none⟩ = some (.int .u64 0) := (blk_cell BK208.out 4).trans rfl; have hcz17_5 : w15.cell? ⟨gb208, 5, none⟩ = some (.int .u64 0) := (blk_cell BK208.out 5).trans rfl; have hcz17_6 : w15.cell? ⟨gb208, 6, none⟩ = some (.bool false) := (blk_cell BK208.out 6).trans rfl; have hfz17_0 := blk_frozen BK208.out 0; have hfz17_1 := blk_frozen BK208.out 1; have hfz17_2 := blk_frozen BK208.out 2; have hfz17_3 := blk_frozen BK208.out 3; have hfz17_4 := blk_frozen BK208.out 4; have hfz17_5 := blk_frozen BK208.out 5; have hfz17_6 := blk_frozen BK208.out 6; have hcz18_0 : w15.cell? ⟨gb206, 0, none⟩ = some (.slice none 0 0) := (blk_cell BK206.out 0).trans rfl; have hcz18_1 : w15.cell? ⟨gb206, 1, none⟩ = some (.int .i64 x207001_2) := (blk_cell BK206.out 1).trans rfl; have hcz18_2 : w15.cell? ⟨gb206, 2, none⟩ = some (.int .u64 x207002_2) := (blk_cell BK206.out 2).trans rfl; have hcz18_3 : w15.cell? ⟨gb206, 3, none⟩ = some (.int .u64 x207003_2) := (blk_cell BK206.out 3).trans rfl; have hcz18_4 : w15.cell? ⟨gb206, 4, none⟩ = some (.int .u64 x207004_2) := (blk_cell BK206.out 4).trans rfl; have hcz18_5 : w15.cell? ⟨gb206, 5, none⟩ = some (.int .u64 x207005_2) := (blk_cell BK206.out 5).trans rfl; have hcz18_6 : w15.cell? ⟨gb206, 6, none⟩ = some (.bool x207006_2) := (blk_cell BK206.out 6).trans rfl; have hfz18_0 := blk_frozen BK206.out 0; have hfz18_1 := blk_frozen BK206.out 1; have hfz18_2 := blk_frozen BK206.out 2; have hfz18_3 := blk_frozen BK206.out 3; have hfz18_4 := blk_frozen BK206.out 4; have hfz18_5 := blk_frozen BK206.out 5; have hfz18_6 := blk_frozen BK206.out 6))
                    refine bodyPost_ret (results_ct rfl _ _ gb206 27 #[.slice none 0 0, .int .i64 0, .int .u64 0, .int .u64 0, .int .u64 0, .int .u64 0, .bool false] (0, 0) _ rfl (by (with_reducible repeat (first | refine blk_drewN ?_ _ | refine blk_drew ?_ | refine blk_alloc ?_ _)); refine blk_put (cs := #[.slice none 0 0, .int .i64 0, .int .u64 0, .int .u64 0, .int .u64 0, .int .u64 0, .bool x207006_2]) ?_ 6 _ rfl; (with_reducible repeat (first | refine blk_drewN ?_ _ | refine blk_drew ?_ | refine blk_alloc ?_ _)); refine blk_put (cs := #[.slice none 0 0, .int .i64 0, .int .u64 0, .int .u64 0, .int .u64 0, .int .u64 x207005_2, .bool x207006_2]) ?_ 5 _ rfl; (with_reducible repeat (first | refine blk_drewN ?_ _ | refine blk_drew ?_ | refine blk_alloc ?_ _)); refine blk_put (cs := #[.slice none 0 0, .int .i64 0, .int .u64 0, .int .u64 0, .int .u64 x207004_2, .int .u64 x207005_2, .bool x207006_2]) ?_ 4 _ rfl; (with_reducible repeat (first | refine blk_drewN ?_ _ | refine blk_drew ?_ | refine blk_alloc ?_ _)); refine blk_put (cs := #[.slice none 0 0, .int .i64 0, .int .u64 0, .int .u64 x207003_2, .int .u64 x207004_2, .int .u64 x207005_2, .bool x207006_2]) ?_ 3 _ rfl; (with_reducible repeat (first | refine blk_drewN ?_ _ | refine blk_drew ?_ | refine blk_alloc ?_ _)); refine blk_put (cs := #[.slice none 0 0, .int .i64 0, .int .u64 x207002_2, .int .u64 x207003_2, .int .u64 x207004_2, .int .u64 x207005_2, .bool x207006_2]) ?_ 2 _ rfl; (with_reducible repeat (first | refine blk_drewN ?_ _ | refine blk_drew ?_ | refine blk_alloc ?_ _)); refine blk_put (cs := #[.slice none 0 0, .int .i64 x207001_2, .int .u64 x207002_2, .int .u64 x207003_2, .int .u64 x207004_2, .int .u64 x207005_2, .bool x207006_2]) ?_ 1 _ rfl; (with_reducible repeat (first | refine blk_drewN ?_ _ | refine blk_drew ?_ | refine blk_alloc ?_ _)); refine blk_put (cs := #[.slice none 0 0, .int .i64 x207001_2, .int .u64 x207002_2, .int .u64 x207003_2, .int .u64 x207004_2, .int .u64 x207005_2, .bool x207006_2]) ?_ 0 _ rfl; (repeat (first | (with_reducible first | refine blk_drewN ?_ _ | refine blk_drew ?_ | refine blk_alloc ?_ _) | refine blk_far ?_ NB206_208.out _)); (with_reducible repeat (first | refine blk_drewN ?_ _ | refine blk_drew ?_ | refine blk_alloc ?_ _)); exact BK206.out) Try.underlying27 rfl (by kernel_rfl)) rfl ?_
                    exact ⟨_, by first | rfl | (simp [errW_none, errW_some] <;> rfl) | (simp [*, errW_none, errW_some] <;> rfl), by first | exact Kd.R_nil _ _ _ _ _ | exact Kd.N_nil _ _ _ _ _ | exact Kd.V_nil _ _ _ _ _ | exact Kd.Q_nil _ _ _ _ _ | exact Kd.S_nil _ _ _ _ _, by repeat (first | (with_reducible first | exact HB.out | apply below_alloc | apply pw_below_drewN | apply below_drew1 | refine below_set ?_ GE206.out | refine below_set ?_ GE208.out) | exact HB.out)⟩
                · rw [if_neg c10] at H
                  exact absurd H (by simp)
              · rw [if_neg c9] at H
                exact absurd H (by simp)
            · rw [if_neg c8] at H
              have c8b0 : decide (x22_2 < (l1.length : Int)) = false := decide_eq_false c8
              clear c8
              by_cases c19 : 0 ≤ a0
              · rw [if_pos c19] at H
                have c19b0 := eq_true c19
                have c19b1 : decide (0 ≤ a0) = true := decide_eq_true c19
                clear c19
                by_cases c20 : (a0 : Int).toNat ≤ 35184372088832
                · rw [if_pos c20] at H
                  have c20b0 := eq_true c20
                  have c20b1 : decide ((a0 : Int).toNat ≤ 35184372088832) = true := decide_eq_true c20
                  clear c20
                  obtain ⟨y209, hy209⟩ : ∃ y_ : List Int, y_ = (List.replicate (a0 : Int).toNat 0) := ⟨_, rfl⟩
                  replace H : (ledger_Sum.l1 k2 l1 (l1.length : Int) 0 y209 0 0 0 0 0 false) = some (r1, r2, r3, r4, r5, r6, r7, r8) := by first | (rw [hy209]; with_reducible exact H) | (have H2_ := (Option.bind_some _ _).symm.trans H; rw [hy209]; with_reducible exact H2_) | (have H2_ := (Option.bind_some _ _).symm.trans H; with_reducible exact H2_) | with_reducible exact H | (rw [hy209]; exact H) | exact H
                  have Ny209 := Aside0.mk hy209
                  clear hy209
                  have H' := Aside0.mk H
                  clear H
                  go_wp2_with (first | ((with_reducible refine gate_dst (N := 34) rfl ?_); refine Kd.R_make (Kd.int .i64) _ 3 rfl (N := 34) rfl 22 _ _ rfl a0 rfl rfl Try.underlying22 (.int .i64 0) 8 info3 rfl (by decide) (by omega) 0 (ok := fun _ => True) (okp := fun _ => True) rfl (fun _ hk => hk) trivial (of_decide_eq_true (by first | (with_reducible assumption) | assumption)) (Nat.le_trans (Nat.mul_le_mul_right _ (of_decide_eq_true (by first | (with_reducible assumption) | assumption) : a0.toNat ≤ 35184372088832)) (by omega)) (Below.refl _ _) (Nat.le_refl _) ?_; intro v210 w21 ho22 hb hg_ hnew_; clear hg_ hnew_; (first | rw [← Ny209.out] at ho22 | (simp only [Int.reduceToNat] at ho22; rw [← Ny209.out] at ho22)); have n0_ := Aside0.mk (Kd.R_lower ho22 (below_size (by repeat (first | (with_reducible first | exact HB.out | apply below_alloc | apply pw_below_drewN | apply below_drew1 | refine below_set ?_ GE206.out) | exact HB.out)))); have n1_ := ledger_Sum.keepB BK206 hb; have n2_ := Aside0.mk (below_step (by repeat (first | (with_reducible first | exact HB.out | apply below_alloc | apply pw_below_drewN | apply below_drew1 | refine below_set ?_ GE206.out) | exact HB.out)) hb); clear BK206; clear HB; have HO211 := n0_; have BK206 := n1_; have HB := n2_; clear n0_ n1_ n2_; clear hb ho22; obtain ⟨Ao23, co23, eo23⟩ := Kd.R_slice HO211.out; subst eo23) | ((with_reducible refine gate_dst (N := 8) rfl ?_); refine box_event ?hg (N := 8) ?hd (cs := #[.slice none 0 0, .int .i64 0, .int .u64 0, .int .u64 0, .int .u64 0, .int .u64 0, .bool false]) (t := 27) ?hr ?_; (case hd => rfl); (case hg => rfl); (case hr => first | (go_simp; done) | (go_simp; rfl)); intro gb212 hg w24 hbox hb; have n0_ := Aside0.mk (Kd.R_below (by (with_reducible repeat (first | apply Kd.R_alloc | apply Kd.R_drewN | apply Kd.R_drew)); exact HO211.out) hb); have n1_ := ledger_Sum.keepB BK206 hb; have n2_ := Aside0.mk (below_step (by repeat (first | (with_reducible first | exact HB.out | apply below_alloc | apply pw_below_drewN | apply below_drew1 | refine below_set ?_ GE206.out) | exact HB.out)) hb); have n3_ := Aside0.mk (hbox); have n4_ := Aside0.mk ((by rw [hg]; exact (below_size (by repeat (first | (with_reducible first | exact HB.out | apply below_alloc | apply pw_below_drewN | apply below_drew1 | refine below_set ?_ GE206.out) | exact HB.out))) : w.heap.size ≤ gb212)); have n5_ := Aside0.mk ((by rw [hg]; exact (below_size (by repeat (first | (with_reducible first | exact HB.out | apply below_alloc | apply pw_below_drewN | apply below_drew1 | refine below_set ?_ GE206.out) | exact HB.out))) : w.heap.size ≤ gb212)); have n6_ := ledger_Sum.neL BK206 hg; have n7_ := ledger_Sum.neG BK206 hg; clear HO211; clear BK206; clear HB; have HO211 := n0_; have BK206 := n1_; have HB := n2_; have BK212 := n3_; have GW212 := n4_; have GE212 := n5_; have NB206_212 := n6_; have NB212_206 := n7_; clear n0_ n1_ n2_ n3_ n4_ n5_ n6_ n7_; clear hb hbox hg; have hnb25 := NB212_206.out; have hnc25 := NB206_212.out; have hcz26_0 : w24.cell? ⟨gb212, 0, none⟩ = some (.slice none 0 0) := (blk_cell BK212.out 0).trans rfl; have hcz26_1 : w24.cell? ⟨gb212, 1, none⟩ = some (.int .i64 0) := (blk_cell BK212.out 1).trans rfl; have hcz26_2 : w24.cell? ⟨gb212, 2, none⟩ = some (.int .u64 0) := (blk_cell BK212.out 2).trans rfl; have hcz26_3 : w24.cell? ⟨gb212, 3, none⟩ = some (.int .u64 0) := (blk_cell BK212.out 3).trans rfl; have hcz26_4 : w24.cell? ⟨gb212, 4, none⟩ = some (.int .u64 0) := (blk_cell BK212.out 4).trans rfl; have hcz26_5 : w24.cell? ⟨gb212, 5, none⟩ = some (.int .u64 0) := (blk_cell BK212.out 5).trans rfl; have hcz26_6 : w24.cell? ⟨gb212, 6, none⟩ = some (.bool false) := (blk_cell BK212.out 6).trans rfl; have hfz26_0 := blk_frozen BK212.out 0; have hfz26_1 := blk_frozen BK212.out 1; have hfz26_2 := blk_frozen BK212.out 2; have hfz26_3 := blk_frozen BK212.out 3; have hfz26_4 := blk_frozen BK212.out 4; have hfz26_5 := blk_frozen BK212.out 5; have hfz26_6 := blk_frozen BK212.out 6))
                  go_loopg [38] k2 (fun kq v38 w' => ∃ (x38_3 : Int) (x207001_3 : Int) (x207002_3 : Int) (x207003_3 : Int) (x207004_3 : Int) (x207005_3 : Int) (x207006_3 : Bool) (x213000_3 : List Int) (x213001_3 : Int) (x213002_3 : Int) (x213003_3 : Int) (x213004_3 : Int) (x213005_3 : Int) (x213006_3 : Bool) (u213000 : Value), v38 = .int .i64 x38_3 ∧ Aside0 (ledger_Sum.l1 kq l1 (l1.length : Int) x38_3 x213000_3 x213001_3 x213002_3 x213003_3 x213004_3 x213005_3 x213006_3 = some (r1, r2, r3, r4, r5, r6, r7, r8)) ∧ Aside0 (kq ≤ k2) ∧ Aside0 (Kd.R (Kd.int .i64) 3 w' w.heap.size (fun _ => True) u213000 x213000_3) ∧ Aside0 (w'.heap[gb206]? = some (.cells #[(.slice none 0 0), .int .i64 x207001_3, .int .u64 x207002_3, .int .u64 x207003_3, .int .u64 x207004_3, .int .u64 x207005_3, .bool x207006_3] 27 (0, 0))) ∧ Aside0 (w'.heap[gb212]? = some (.cells #[u213000, .int .i64 x213001_3, .int .u64 x213002_3, .int .u64 x213003_3, .int .u64 x213004_3, .int .u64 x213005_3, .bool x213006_3] 27 (0, 0))) ∧ Aside0 (Below w.heap.size w w'))
                  case atStart => exact ⟨(0), (x207001_2), (x207002_2), (x207003_2), (x207004_2), (x207005_2), (x207006_2), (y209), (0), (0), (0), (0), (0), (false), (.slice Ao23 y209.length co23), (by first | rfl | (simp; done) | (simp [*]; done)), H', ⟨Nat.le_refl _⟩, ⟨by (with_reducible repeat (first | apply Kd.R_alloc | apply Kd.R_drewN | apply Kd.R_drew)); exact Kd.R_mono (Kd.R_far (p := ⟨gb212, 6, none⟩) (Kd.R_far (p := ⟨gb212, 5, none⟩) (Kd.R_far (p := ⟨gb212, 4, none⟩) (Kd.R_far (p := ⟨gb212, 3, none⟩) (Kd.R_far (p := ⟨gb212, 2, none⟩) (Kd.R_far (p := ⟨gb212, 1, none⟩) (Kd.R_far (p := ⟨gb212, 0, none⟩) (Kd.R_types HO211.out BK212.out (by decide)) (fun _ hk => hk.2) (.slice Ao23 y209.length co23)) (fun _ hk => hk.2) (.int .i64 0)) (fun _ hk => hk.2) (.int .u64 0)) (fun _ hk => hk.2) (.int .u64 0)) (fun _ hk => hk.2) (.int .u64 0)) (fun _ hk => hk.2) (.int .u64 0)) (fun _ hk => hk.2) (.bool false)) (fun _ hk => trivial)⟩, ⟨by (repeat (first | (with_reducible first | refine blk_drewN ?_ _ | refine blk_drew ?_ | refine blk_alloc ?_ _) | refine blk_far ?_ NB206_212.out _)); (with_reducible repeat (first | refine blk_drewN ?_ _ | refine blk_drew ?_ | refine blk_alloc ?_ _)); exact BK206.out⟩, ⟨by (with_reducible repeat (first | refine blk_drewN ?_ _ | refine blk_drew ?_ | refine blk_alloc ?_ _)); refine blk_put (cs := #[.slice Ao23 y209.length co23, .int .i64 0, .int .u64 0, .int .u64 0, .int .u64 0, .int .u64 0, .bool false]) ?_ 6 _ rfl; (with_reducible repeat (first | refine blk_drewN ?_ _ | refine blk_drew ?_ | refine blk_alloc ?_ _)); refine blk_put (cs := #[.slice Ao23 y209.length co23, .int .i64 0, .int .u64 0, .int .u64 0, .int .u64 0, .int .u64 0, .bool false]) ?_ 5 _ rfl; (with_reducible repeat (first | refine blk_drewN ?_ _ | refine blk_drew ?_ | refine blk_alloc ?_ _)); refine blk_put (cs := #[.slice Ao23 y209.length co23, .int .i64 0, .int .u64 0, .int .u64 0, .int .u64 0, .int .u64 0, .bool false]) ?_ 4 _ rfl; (with_reducible repeat (first | refine blk_drewN ?_ _ | refine blk_drew ?_ | refine blk_alloc ?_ _)); refine blk_put (cs := #[.slice Ao23 y209.length co23, .int .i64 0, .int .u64 0, .int .u64 0, .int .u64 0, .int .u64 0, .bool false]) ?_ 3 _ rfl; (with_reducible repeat (first | refine blk_drewN ?_ _ | refine blk_drew ?_ | refine blk_alloc ?_ _)); refine blk_put (cs := #[.slice Ao23 y209.length co23, .int .i64 0, .int .u64 0, .int .u64 0, .int .u64 0, .int .u64 0, .bool false]) ?_ 2 _ rfl; (with_reducible repeat (first | refine blk_drewN ?_ _ | refine blk_drew ?_ | refine blk_alloc ?_ _)); refine blk_put (cs := #[.slice Ao23 y209.length co23, .int .i64 0, .int .u64 0, .int .u64 0, .int .u64 0, .int .u64 0, .bool false]) ?_ 1 _ rfl; (with_reducible repeat (first | refine blk_drewN ?_ _ | refine blk_drew ?_ | refine blk_alloc ?_ _)); refine blk_put (cs := #[.slice none 0 0, .int .i64 0, .int .u64 0, .int .u64 0, .int .u64 0, .int .u64 0, .bool false]) ?_ 0 _ rfl; (with_reducible repeat (first | refine blk_drewN ?_ _ | refine blk_drew ?_ | refine blk_alloc ?_ _)); exact BK212.out⟩, ⟨by repeat (first | (with_reducible first | exact HB.out | apply below_alloc | apply pw_below_drewN | apply below_drew1 | refine below_set ?_ GE206.out | refine below_set ?_ GE212.out) | exact HB.out)⟩⟩
                  case round =>
                    clear H'
                    try clear c1
                    try clear c2
                    try clear p2
                    try clear q2
                    try clear hx2
                    try clear c5
                    try clear c5b0
                    try clear c6
                    try clear p6
                    try clear c8
                    try clear c8b0
                    try clear c9
                    try clear c9b0
                    try clear c10
                    try clear c10b0
                    try clear c11
                    try clear c11b0
                    try clear c11b1
                    try clear c12
                    try clear c13
                    try clear c16
                    try clear c19
                    try clear c19b0
                    try clear c19b1
                    try clear c20
                    try clear c20b0
                    try clear c20b1
                    try clear p20
                    try clear q20
                    try clear hx20
                    try clear c25
                    try clear hcz14_0
                    try clear hcz14_1
                    try clear hcz14_2
                    try clear hcz14_3
                    try clear hcz14_4
                    try clear hcz14_5
                    try clear hcz14_6
                    try clear hcz17_0
                    try clear hcz17_1
                    try clear hcz17_2
                    try clear hcz17_3
                    try clear hcz17_4
                    try clear hcz17_5
                    try clear hcz17_6
                    try clear hcz18_0
                    try clear hcz18_1
                    try clear hcz18_2
                    try clear hcz18_3
                    try clear hcz18_4
                    try clear hcz18_5
                    try clear hcz18_6
                    try clear hcz26_0
                    try clear hcz26_1
                    try clear hcz26_2
                    try clear hcz26_3
                    try clear hcz26_4
                    try clear hcz26_5
                    try clear hcz26_6
                    try clear hcz7_0
                    try clear hcz7_1
                    try clear hcz7_2
                    try clear hcz7_3
                    try clear hcz7_4
                    try clear hcz7_5
                    try clear hcz7_6
                    try clear hfz14_0
                    try clear hfz14_1
                    try clear hfz14_2
                    try clear hfz14_3
                    try clear hfz14_4
                    try clear hfz14_5
                    try clear hfz14_6
                    try clear hfz17_0
                    try clear hfz17_1
                    try clear hfz17_2
                    try clear hfz17_3
                    try clear hfz17_4
                    try clear hfz17_5
                    try clear hfz17_6
                    try clear hfz18_0
                    try clear hfz18_1
                    try clear hfz18_2
                    try clear hfz18_3
                    try clear hfz18_4
                    try clear hfz18_5
                    try clear hfz18_6
                    try clear hfz26_0
                    try clear hfz26_1
                    try clear hfz26_2
                    try clear hfz26_3
                    try clear hfz26_4
                    try clear hfz26_5
                    try clear hfz26_6
                    try clear hfz7_0
                    try clear hfz7_1
                    try clear hfz7_2
                    try clear hfz7_3
                    try clear hfz7_4
                    try clear hfz7_5
                    try clear hfz7_6
                    try clear hx207_0
                    try clear hx207_1
                    try clear hx207_2
                    try clear hx207_3
                    try clear hx207_4
                    try clear hx207_5
                    try clear hx207_6
                    try clear p2
                    try clear p207
                    try clear q207
                    obtain ⟨x38_3, x207001_3, x207002_3, x207003_3, x207004_3, x207005_3, x207006_3, x213000_3, x213001_3, x213002_3, x213003_3, x213004_3, x213005_3, x213006_3, u213000, rfl, HA, HK3, HO_213000, BK206, BK212, HB⟩ := hrel
                    cases gk with
                    | zero => exact absurd HA.out (by simp [ledger_Sum.l1])
                    | succ k3 =>
                      have H := HA.out
                      clear HA
                      simp only [ledger_Sum.l1] at H
                      by_cases c27 : x38_3 < (l1.length : Int)
                      · rw [if_pos c27] at H
                        have c27b0 : decide (x38_3 < (l1.length : Int)) = true := decide_eq_true c27
                        clear c27
                        by_cases c28 : 0 ≤ x38_3
                        · rw [if_pos c28] at H
                          have c28b0 : decide (0 ≤ x38_3) = true := decide_eq_true c28
                          clear c28
                          by_cases c29 : x38_3 < (l1.length : Int)
                          · rw [if_pos c29] at H
                            have c29b0 : decide (x38_3 < (l1.length : Int)) = true := decide_eq_true c29
                            clear c29
                            replace H := Option.bind_eq_some_iff.mp H
                            obtain ⟨⟨t215, t218, t219, t220, t221, t222, t223, t224⟩, A300, H⟩ := H
                            replace H : (if t224 = 0 then (ledger_Sum.l1 k3 l1 (l1.length : Int) (wrap64 (x38_3 + 1)) t215 t218 t219 t220 t221 t222 t223) else (some (([] : List Int), 0, 0, 0, 0, 0, false, t224))) = some (r1, r2, r3, r4, r5, r6, r7, r8) := H
                            have A30 := Aside0.mk A300
                            clear A300
                            by_cases c31 : t224 = 0
                            · rw [if_pos c31] at H
                              have c31b0 : (t224 == 0) = true := beq_iff_eq.mpr c31
                              have c31b1 : (t224 != 0) = false := bne_eq_false_iff_eq.mpr c31
                              clear c31
                              have H' := Aside0.mk H
                              clear H
                              have p213 : 0 ≤ (x38_3 : Int) := of_decide_eq_true (by first | (with_reducible assumption) | assumption)
                              have q213 : x38_3 < (l1.length : Int) := of_decide_eq_true (by first | (with_reducible assumption) | assumption)
                              obtain ⟨ad213, A213_0, c213_0, e213, hx213_0, hx213_1, hx213_2, hx213_3, hx213_4, hx213_5, hx213_6, hl213_0, hi213_0⟩ := at_T27 HR1.out x38_3 p213 q213
                              cases e213
                              replace hx213_0 := (HB.out.cell (World.block_lt_of_cell? w _ hx213_0)).trans hx213_0
                              replace hx213_1 := (HB.out.cell (World.block_lt_of_cell? w _ hx213_1)).trans hx213_1
                              replace hx213_2 := (HB.out.cell (World.block_lt_of_cell? w _ hx213_2)).trans hx213_2
                              replace hx213_3 := (HB.out.cell (World.block_lt_of_cell? w _ hx213_3)).trans hx213_3
                              replace hx213_4 := (HB.out.cell (World.block_lt_of_cell? w _ hx213_4)).trans hx213_4
                              replace hx213_5 := (HB.out.cell (World.block_lt_of_cell? w _ hx213_5)).trans hx213_5
                              replace hx213_6 := (HB.out.cell (World.block_lt_of_cell? w _ hx213_6)).trans hx213_6
                              have HR213_0 := Aside0.mk hi213_0
                              have HC213_0 := Aside0.mk hl213_0
                              clear hi213_0 hl213_0
                              replace p213 := eq_true p213
                              replace q213 := eq_true q213
                              go_wp2_with (first | ((with_reducible refine gate_dst (N := 10) rfl ?_); refine box_event ?hg (N := 10) ?hd (cs := #[.slice none 0 0, .int .i64 0, .int .u64 0, .int .u64 0, .int .u64 0, .int .u64 0, .bool false]) (t := 27) ?hr ?_; (case hd => rfl); (case hg => rfl); (case hr => first | (go_simp; done) | (go_simp; rfl)); intro gb214 hg w32 hbox hb; have n0_ := Aside0.mk (Kd.R_below (by (with_reducible repeat (first | apply Kd.R_alloc | apply Kd.R_drewN | apply Kd.R_drew)); exact HO_213000.out) hb); have n1_ := ledger_Sum.keepB BK206 hb; have n2_ := ledger_Sum.keepB BK212 hb; have n3_ := Aside0.mk (below_step (by repeat (first | (with_reducible first | exact HB.out | apply below_alloc | apply pw_below_drewN | apply below_drew1 | refine below_set ?_ GE206.out | refine below_set ?_ GE212.out) | exact HB.out)) hb); have n4_ := Aside0.mk (hbox); have n5_ := Aside0.mk ((by rw [hg]; exact (below_size (by repeat (first | (with_reducible first | exact HB.out | apply below_alloc | apply pw_below_drewN | apply below_drew1 | refine below_set ?_ GE206.out | refine below_set ?_ GE212.out) | exact HB.out))) : w.heap.size ≤ gb214)); have n6_ := Aside0.mk ((by rw [hg]; exact (below_size (by repeat (first | (with_reducible first | exact HB.out | apply below_alloc | apply pw_below_drewN | apply below_drew1 | refine below_set ?_ GE206.out | refine below_set ?_ GE212.out) | exact HB.out))) : w.heap.size ≤ gb214)); have n7_ := ledger_Sum.neL BK206 hg; have n8_ := ledger_Sum.neG BK206 hg; have n9_ := ledger_Sum.neL BK212 hg; have n10_ := ledger_Sum.neG BK212 hg; clear HO_213000; clear BK206; clear BK212; clear HB; have HO_213000 := n0_; have BK206 := n1_; have BK212 := n2_; have HB := n3_; have BK214 := n4_; have GW214 := n5_; have GE214 := n6_; have NB206_214 := n7_; have NB214_206 := n8_; have NB212_214 := n9_; have NB214_212 := n10_; clear n0_ n1_ n2_ n3_ n4_ n5_ n6_ n7_ n8_ n9_ n10_; clear hb hbox hg; have hnb33 := NB214_206.out; have hnc33 := NB206_214.out; have hnb34 := NB214_212.out; have hnc34 := NB212_214.out; have hcz35_0 : w32.cell? ⟨gb214, 0, none⟩ = some (.slice none 0 0) := (blk_cell BK214.out 0).trans rfl; have hcz35_1 : w32.cell? ⟨gb214, 1, none⟩ = some (.int .i64 0) := (blk_cell BK214.out 1).trans rfl; have hcz35_2 : w32.cell? ⟨gb214, 2, none⟩ = some (.int .u64 0) := (blk_cell BK214.out 2).trans rfl; have hcz35_3 : w32.cell? ⟨gb214, 3, none⟩ = some (.int .u64 0) := (blk_cell BK214.out 3).trans rfl; have hcz35_4 : w32.cell? ⟨gb214, 4, none⟩ = some (.int .u64 0) := (blk_cell BK214.out 4).trans rfl; have hcz35_5 : w32.cell? ⟨gb214, 5, none⟩ = some (.int .u64 0) := (blk_cell BK214.out 5).trans rfl; have hcz35_6 : w32.cell? ⟨gb214, 6, none⟩ = some (.bool false) := (blk_cell BK214.out 6).trans rfl; have hfz35_0 := blk_frozen BK214.out 0; have hfz35_1 := blk_frozen BK214.out 1; have hfz35_2 := blk_frozen BK214.out 2; have hfz35_3 := blk_frozen BK214.out 3; have hfz35_4 := blk_frozen BK214.out 4; have hfz35_5 := blk_frozen BK214.out 5; have hfz35_6 := blk_frozen BK214.out 6; have hnb36 := NB212_206.out; have hnc36 := NB206_212.out; have hcz37_0 : w32.cell? ⟨gb212, 0, none⟩ = some (u213000) := (blk_cell BK212.out 0).trans rfl; have hcz37_1 : w32.cell? ⟨gb212, 1, none⟩ = some (.int .i64 x213001_3) := (blk_cell BK212.out 1).trans rfl; have hcz37_2 : w32.cell? ⟨gb212, 2, none⟩ = some (.int .u64 x213002_3) := (blk_cell BK212.out 2).trans rfl; have hcz37_3 : w32.cell? ⟨gb212, 3, none⟩ = some (.int .u64 x213003_3) := (blk_cell BK212.out 3).trans rfl; have hcz37_4 : w32.cell? ⟨gb212, 4, none⟩ = some (.int .u64 x213004_3) := (blk_cell BK212.out 4).trans rfl; have hcz37_5 : w32.cell? ⟨gb212, 5, none⟩ = some (.int .u64 x213005_3) := (blk_cell BK212.out 5).trans rfl; have hcz37_6 : w32.cell? ⟨gb212, 6, none⟩ = some (.bool x213006_3) := (blk_cell BK212.out 6).trans rfl; have hfz37_0 := blk_frozen BK212.out 0; have hfz37_1 := blk_frozen BK212.out 1; have hfz37_2 := blk_frozen BK212.out 2; have hfz37_3 := blk_frozen BK212.out 3; have hfz37_4 := blk_frozen BK212.out 4; have hfz37_5 := blk_frozen BK212.out 5; have hfz37_6 := blk_frozen BK212.out 6; obtain ⟨Ao38, co38, eo38⟩ := Kd.R_slice HO_213000.out; subst eo38) | ((with_reducible refine gate_callee (f := 7) rfl ?_); refine goesL_ (some 45) rfl rfl Try.func7 (by kernel_rfl) rfl #[.agg #[.slice Ao38 x213000_3.length co38, .int .i64 x213001_3, .int .u64 x213002_3, .int .u64 x213003_3, .int .u64 x213004_3, .int .u64 x213005_3, .bool x213006_3], .agg #[.slice A213_0 ((rd_T27 l1 x38_3).f0).length c213_0, .int .i64 ((rd_T27 l1 x38_3).f1), .int .u64 ((rd_T27 l1 x38_3).f2.f0), .int .u64 ((rd_T27 l1 x38_3).f2.f1), .int .u64 ((rd_T27 l1 x38_3).f3.f0), .int .u64 ((rd_T27 l1 x38_3).f3.f1), .bool ((rd_T27 l1 x38_3).f4)]] rfl (by (try simp only [List.map_toArray, List.map_cons, List.map_nil]); first | done | rfl | (simp only [List.length_drop, List.length_take]; rfl)) ?_; (with_reducible refine (ledger_Add.calls k3 _ _ x213000_3 x213001_3 x213002_3 x213003_3 x213004_3 x213005_3 x213006_3 _ _ ((rd_T27 l1 x38_3).f0) ((rd_T27 l1 x38_3).f1) ((rd_T27 l1 x38_3).f2.f0) ((rd_T27 l1 x38_3).f2.f1) ((rd_T27 l1 x38_3).f3.f0) ((rd_T27 l1 x38_3).f3.f1) ((rd_T27 l1 x38_3).f4) t215 t218 t219 t220 t221 t222 t223 t224 _ ?side1 ?side2 ?side3 ?side4 A30.out).mono ?_); (case side1 => refine (Kd.R_reads' (e := 3) (base := w.heap.size) (ok := fun k_ => True) (n := x213000_3.length) (c := co38) ?_).2.2; exact (by (with_reducible repeat (first | apply Kd.R_alloc | apply Kd.R_drewN | apply Kd.R_drew)); exact (Kd.R_mono (Kd.R_far (p := ⟨gb214, 6, none⟩) (Kd.R_far (p := ⟨gb214, 5, none⟩) (Kd.R_far (p := ⟨gb214, 4, none⟩) (Kd.R_far (p := ⟨gb214, 3, none⟩) (Kd.R_far (p := ⟨gb214, 2, none⟩) (Kd.R_far (p := ⟨gb214, 1, none⟩) (Kd.R_far (p := ⟨gb214, 0, none⟩) (Kd.R_types HO_213000.out BK214.out (by decide)) (fun _ hk => hk.2) (.slice A213_0 ((rd_T27 l1 x38_3).f0).length c213_0)) (fun _ hk => hk.2) (.int .i64 ((rd_T27 l1 x38_3).f1))) (fun _ hk => hk.2) (.int .u64 ((rd_T27 l1 x38_3).f2.f0))) (fun _ hk => hk.2) (.int .u64 ((rd_T27 l1 x38_3).f2.f1))) (fun _ hk => hk.2) (.int .u64 ((rd_T27 l1 x38_3).f3.f0))) (fun _ hk => hk.2) (.int .u64 ((rd_T27 l1 x38_3).f3.f1))) (fun _ hk => hk.2) (.bool ((rd_T27 l1 x38_3).f4))) (fun _ h_ => h_.1)))); (case side2 => exact (Kd.R_reads' HO_213000.out).2.1); (case side3 => exact Kd.C_below HR213_0.out (by repeat (first | (with_reducible first | exact HB.out | apply below_alloc | apply pw_below_drewN | apply below_drew1 | refine below_set ?_ GE206.out | refine below_set ?_ GE212.out | refine below_set ?_ GE214.out) | exact HB.out))); (case side4 => exact HC213_0.out); rintro e w39 ⟨v216, rfl, ho0, hb⟩; refine ⟨_, rfl, ?_⟩; have n0_ := Aside0.mk (Kd.R_elder' (by (with_reducible repeat (first | apply Kd.R_alloc | apply Kd.R_drewN | apply Kd.R_drew)); exact (Kd.R_mono (Kd.R_far (p := ⟨gb214, 6, none⟩) (Kd.R_far (p := ⟨gb214, 5, none⟩) (Kd.R_far (p := ⟨gb214, 4, none⟩) (Kd.R_far (p := ⟨gb214, 3, none⟩) (Kd.R_far (p := ⟨gb214, 2, none⟩) (Kd.R_far (p := ⟨gb214, 1, none⟩) (Kd.R_far (p := ⟨gb214, 0, none⟩) (Kd.R_types HO_213000.out BK214.out (by decide)) (fun _ hk => hk.2) (.slice A213_0 ((rd_T27 l1 x38_3).f0).length c213_0)) (fun _ hk => hk.2) (.int .i64 ((rd_T27 l1 x38_3).f1))) (fun _ hk => hk.2) (.int .u64 ((rd_T27 l1 x38_3).f2.f0))) (fun _ hk => hk.2) (.int .u64 ((rd_T27 l1 x38_3).f2.f1))) (fun _ hk => hk.2) (.int .u64 ((rd_T27 l1 x38_3).f3.f0))) (fun _ hk => hk.2) (.int .u64 ((rd_T27 l1 x38_3).f3.f1))) (fun _ hk => hk.2) (.bool ((rd_T27 l1 x38_3).f4))) (fun _ h_ => h_.1))) (Kd.R_base ho0) hb); have n1_ := Aside0.mk (Kd.R_lower (Kd.R_new' ho0 (Kd.R_lt (by (with_reducible repeat (first | apply Kd.R_alloc | apply Kd.R_drewN | apply Kd.R_drew)); exact (Kd.R_mono (Kd.R_far (p := ⟨gb214, 6, none⟩) (Kd.R_far (p := ⟨gb214, 5, none⟩) (Kd.R_far (p := ⟨gb214, 4, none⟩) (Kd.R_far (p := ⟨gb214, 3, none⟩) (Kd.R_far (p := ⟨gb214, 2, none⟩) (Kd.R_far (p := ⟨gb214, 1, none⟩) (Kd.R_far (p := ⟨gb214, 0, none⟩) (Kd.R_types HO_213000.out BK214.out (by decide)) (fun _ hk => hk.2) (.slice A213_0 ((rd_T27 l1 x38_3).f0).length c213_0)) (fun _ hk => hk.2) (.int .i64 ((rd_T27 l1 x38_3).f1))) (fun _ hk => hk.2) (.int .u64 ((rd_T27 l1 x38_3).f2.f0))) (fun _ hk => hk.2) (.int .u64 ((rd_T27 l1 x38_3).f2.f1))) (fun _ hk => hk.2) (.int .u64 ((rd_T27 l1 x38_3).f3.f0))) (fun _ hk => hk.2) (.int .u64 ((rd_T27 l1 x38_3).f3.f1))) (fun _ hk => hk.2) (.bool ((rd_T27 l1 x38_3).f4))) (fun _ h_ => h_.1))))) (below_size (by repeat (first | (with_reducible first | exact HB.out | apply below_alloc | apply pw_below_drewN | apply below_drew1 | refine below_set ?_ GE206.out | refine below_set ?_ GE212.out | refine below_set ?_ GE214.out) | exact HB.out)))); have n2_ := Aside0.mk (blk_below (g := gb206) (o := .cells #[.slice none 0 0, .int .i64 x207001_3, .int .u64 x207002_3, .int .u64 x207003_3, .int .u64 x207004_3, .int .u64 x207005_3, .bool x207006_3] 27 (0, 0)) (by (repeat (first | (with_reducible first | refine blk_drewN ?_ _ | refine blk_drew ?_ | refine blk_alloc ?_ _) | refine blk_far ?_ NB206_214.out _)); (with_reducible repeat (first | refine blk_drewN ?_ _ | refine blk_drew ?_ | refine blk_alloc ?_ _)); exact BK206.out) hb); have n3_ := Aside0.mk (blk_below (g := gb212) (o := .cells #[.slice Ao38 x213000_3.length co38, .int .i64 x213001_3, .int .u64 x213002_3, .int .u64 x213003_3, .int .u64 x213004_3, .int .u64 x213005_3, .bool x213006_3] 27 (0, 0)) (by (repeat (first | (with_reducible first | refine blk_drewN ?_ _ | refine blk_drew ?_ | refine blk_alloc ?_ _) | refine blk_far ?_ NB212_214.out _)); (with_reducible repeat (first | refine blk_drewN ?_ _ | refine blk_drew ?_ | refine blk_alloc ?_ _)); exact BK212.out) hb); have n4_ := Aside0.mk (blk_below (g := gb214) (o := .cells #[.slice A213_0 ((rd_T27 l1 x38_3).f0).length c213_0, .int .i64 ((rd_T27 l1 x38_3).f1), .int .u64 ((rd_T27 l1 x38_3).f2.f0), .int .u64 ((rd_T27 l1 x38_3).f2.f1), .int .u64 ((rd_T27 l1 x38_3).f3.f0), .int .u64 ((rd_T27 l1 x38_3).f3.f1), .bool ((rd_T27 l1 x38_3).f4)] 27 (0, 0)) (by (with_reducible repeat (first | refine blk_drewN ?_ _ | refine blk_drew ?_ | refine blk_alloc ?_ _)); refine blk_put (cs := #[.slice A213_0 ((rd_T27 l1 x38_3).f0).length c213_0, .int .i64 ((rd_T27 l1 x38_3).f1), .int .u64 ((rd_T27 l1 x38_3).f2.f0), .int .u64 ((rd_T27 l1 x38_3).f2.f1), .int .u64 ((rd_T27 l1 x38_3).f3.f0), .int .u64 ((rd_T27 l1 x38_3).f3.f1), .bool false]) ?_ 6 _ rfl; (with_reducible repeat (first | refine blk_drewN ?_ _ | refine blk_drew ?_ | refine blk_alloc ?_ _)); refine blk_put (cs := #[.slice A213_0 ((rd_T27 l1 x38_3).f0).length c213_0, .int .i64 ((rd_T27 l1 x38_3).f1), .int .u64 ((rd_T27 l1 x38_3).f2.f0), .int .u64 ((rd_T27 l1 x38_3).f2.f1), .int .u64 ((rd_T27 l1 x38_3).f3.f0), .int .u64 0, .bool false]) ?_ 5 _ rfl; (with_reducible repeat (first | refine blk_drewN ?_ _ | refine blk_drew ?_ | refine blk_alloc ?_ _)); refine blk_put (cs := #[.slice A213_0 ((rd_T27 l1 x38_3).f0).length c213_0, .int .i64 ((rd_T27 l1 x38_3).f1), .int .u64 ((rd_T27 l1 x38_3).f2.f0), .int .u64 ((rd_T27 l1 x38_3).f2.f1), .int .u64 0, .int .u64 0, .bool false]) ?_ 4 _ rfl; (with_reducible repeat (first | refine blk_drewN ?_ _ | refine blk_drew ?_ | refine blk_alloc ?_ _)); refine blk_put (cs := #[.slice A213_0 ((rd_T27 l1 x38_3).f0).length c213_0, .int .i64 ((rd_T27 l1 x38_3).f1), .int .u64 ((rd_T27 l1 x38_3).f2.f0), .int .u64 0, .int .u64 0, .int .u64 0, .bool false]) ?_ 3 _ rfl; (with_reducible repeat (first | refine blk_drewN ?_ _ | refine blk_drew ?_ | refine blk_alloc ?_ _)); refine blk_put (cs := #[.slice A213_0 ((rd_T27 l1 x38_3).f0).length c213_0, .int .i64 ((rd_T27 l1 x38_3).f1), .int .u64 0, .int .u64 0, .int .u64 0, .int .u64 0, .bool false]) ?_ 2 _ rfl; (with_reducible repeat (first | refine blk_drewN ?_ _ | refine blk_drew ?_ | refine blk_alloc ?_ _)); refine blk_put (cs := #[.slice A213_0 ((rd_T27 l1 x38_3).f0).length c213_0, .int .i64 0, .int .u64 0, .int .u64 0, .int .u64 0, .int .u64 0, .bool false]) ?_ 1 _ rfl; (with_reducible repeat (first | refine blk_drewN ?_ _ | refine blk_drew ?_ | refine blk_alloc ?_ _)); refine blk_put (cs := #[.slice none 0 0, .int .i64 0, .int .u64 0, .int .u64 0, .int .u64 0, .int .u64 0, .bool false]) ?_ 0 _ rfl; (with_reducible repeat (first | refine blk_drewN ?_ _ | refine blk_drew ?_ | refine blk_alloc ?_ _)); exact BK214.out) hb); have n5_ := Aside0.mk (below_step (by repeat (first | (with_reducible first | exact HB.out | apply below_alloc | apply pw_below_drewN | apply below_drew1 | refine below_set ?_ GE206.out | refine below_set ?_ GE212.out | refine below_set ?_ GE214.out) | exact HB.out)) hb); clear HO_213000; clear BK206; clear BK212; clear BK214; clear HB; have HO_213000 := n0_; have HO217 := n1_; have BK206 := n2_; have BK212 := n3_; have BK214 := n4_; have HB := n5_; clear n0_ n1_ n2_ n3_ n4_ n5_; (try clear hb); (try clear hb2); (try clear hk); (try clear hi); (try clear ho0)) | ((with_reducible refine gate_dst (N := 11) rfl ?_); refine box_event ?hg (N := 11) ?hd (cs := #[.slice none 0 0, .int .i64 0, .int .u64 0, .int .u64 0, .int .u64 0, .int .u64 0, .bool false]) (t := 27) ?hr ?_; (case hd => rfl); (case hg => rfl); (case hr => first | (go_simp; done) | (go_simp; rfl)); intro gb225 hg w40 hbox hb; have n0_ := Aside0.mk (Kd.R_below (by (with_reducible repeat (first | apply Kd.R_alloc | apply Kd.R_drewN | apply Kd.R_drew)); exact HO_213000.out) hb); have n1_ := Aside0.mk (Kd.R_below (by (with_reducible repeat (first | apply Kd.R_alloc | apply Kd.R_drewN | apply Kd.R_drew)); exact HO217.out) hb); have n2_ := ledger_Sum.keepB BK206 hb; have n3_ := ledger_Sum.keepB BK212 hb; have n4_ := ledger_Sum.keepB BK214 hb; have n5_ := Aside0.mk (below_step (by repeat (first | (with_reducible first | exact HB.out | apply below_alloc | apply pw_below_drewN | apply below_drew1 | refine below_set ?_ GE206.out | refine below_set ?_ GE212.out | refine below_set ?_ GE214.out) | exact HB.out)) hb); have n6_ := Aside0.mk (hbox); have n7_ := Aside0.mk ((by rw [hg]; exact (below_size (by repeat (first | (with_reducible first | exact HB.out | apply below_alloc | apply pw_below_drewN | apply below_drew1 | refine below_set ?_ GE206.out | refine below_set ?_ GE212.out | refine below_set ?_ GE214.out) | exact HB.out))) : w.heap.size ≤ gb225)); have n8_ := Aside0.mk ((by rw [hg]; exact (below_size (by repeat (first | (with_reducible first | exact HB.out | apply below_alloc | apply pw_below_drewN | apply below_drew1 | refine below_set ?_ GE206.out | refine below_set ?_ GE212.out | refine below_set ?_ GE214.out) | exact HB.out))) : w.heap.size ≤ gb225)); have n9_ := ledger_Sum.neL BK206 hg; have n10_ := ledger_Sum.neG BK206 hg; have n11_ := ledger_Sum.neL BK212 hg; have n12_ := ledger_Sum.neG BK212 hg; have n13_ := ledger_Sum.neL BK214 hg; have n14_ := ledger_Sum.neG BK214 hg; clear HO_213000; clear HO217; clear BK206; clear BK212; clear BK214; clear HB; have HO_213000 := n0_; have HO217 := n1_; have BK206 := n2_; have BK212 := n3_; have BK214 := n4_; have HB := n5_; have BK225 := n6_; have GW225 := n7_; have GE225 := n8_; have NB206_225 := n9_; have NB225_206 := n10_; have NB212_225 := n11_; have NB225_212 := n12_; have NB214_225 := n13_; have NB225_214 := n14_; clear n0_ n1_ n2_ n3_ n4_ n5_ n6_ n7_ n8_ n9_ n10_ n11_ n12_ n13_ n14_; clear hb hbox hg; obtain ⟨Ao41, co41, eo41⟩ := Kd.R_slice HO217.out; subst eo41; have hnb42 := NB225_206.out; have hnc42 := NB206_225.out; have hnb43 := NB225_212.out; have hnc43 := NB212_225.out; have hnb44 := NB225_214.out; have hnc44 := NB214_225.out; have hcz45_0 : w40.cell? ⟨gb225, 0, none⟩ = some (.slice none 0 0) := (blk_cell BK225.out 0).trans rfl; have hcz45_1 : w40.cell? ⟨gb225, 1, none⟩ = some (.int .i64 0) := (blk_cell BK225.out 1).trans rfl; have hcz45_2 : w40.cell? ⟨gb225, 2, none⟩ = some (.int .u64 0) := (blk_cell BK225.out 2).trans rfl; have hcz45_3 : w40.cell? ⟨gb225, 3, none⟩ = some (.int .u64 0) := (blk_cell BK225.out 3).trans rfl; have hcz45_4 : w40.cell? ⟨gb225, 4, none⟩ = some (.int .u64 0) := (blk_cell BK225.out 4).trans rfl; have hcz45_5 : w40.cell? ⟨gb225, 5, none⟩ = some (.int .u64 0) := (blk_cell BK225.out 5).trans rfl; have hcz45_6 : w40.cell? ⟨gb225, 6, none⟩ = some (.bool false) := (blk_cell BK225.out 6).trans rfl; have hfz45_0 := blk_frozen BK225.out 0; have hfz45_1 := blk_frozen BK225.out 1; have hfz45_2 := blk_frozen BK225.out 2; have hfz45_3 := blk_frozen BK225.out 3; have hfz45_4 := blk_frozen BK225.out 4; have hfz45_5 := blk_frozen BK225.out 5; have hfz45_6 := blk_frozen BK225.out 6; have hcz46_0 : w40.cell? ⟨gb212, 0, none⟩ = some (.slice Ao38 x213000_3.length co38) := (blk_cell BK212.out 0).trans rfl; have hcz46_1 : w40.cell? ⟨gb212, 1, none⟩ = some (.int .i64 x213001_3) := (blk_cell BK212.out 1).trans rfl; have hcz46_2 : w40.cell? ⟨gb212, 2, none⟩ = some (.int .u64 x213002_3) := (blk_cell BK212.out 2).trans rfl; have hcz46_3 : w40.cell? ⟨gb212, 3, none⟩ = some (.int .u64 x213003_3) := (blk_cell BK212.out 3).trans rfl; have hcz46_4 : w40.cell? ⟨gb212, 4, none⟩ = some (.int .u64 x213004_3) := (blk_cell BK212.out 4).trans rfl; have hcz46_5 : w40.cell? ⟨gb212, 5, none⟩ = some (.int .u64 x213005_3) := (blk_cell BK212.out 5).trans rfl; have hcz46_6 : w40.cell? ⟨gb212, 6, none⟩ = some (.bool x213006_3) := (blk_cell BK212.out 6).trans rfl; have hfz46_0 := blk_frozen BK212.out 0; have hfz46_1 := blk_frozen BK212.out 1; have hfz46_2 := blk_frozen BK212.out 2; have hfz46_3 := blk_frozen BK212.out 3; have hfz46_4 := blk_frozen BK212.out 4; have hfz46_5 := blk_frozen BK212.out 5; have hfz46_6 := blk_frozen BK212.out 6))
                              go_roundg k3
                              case measure => have := HJ2.out; have := HK2.out; have := HK3.out; omega
                              case rel => exact ⟨(wrap64 (x38_3 + 1)), (x207001_3), (x207002_3), (x207003_3), (x207004_3), (x207005_3), (x207006_3), (t215), (t218), (t219), (t220), (t221), (t222), (t223), (.slice Ao41 t215.length co41), (by first | rfl | (simp; done) | (simp [*]; done)), H', ⟨by have := HJ2.out; have := HK2.out; have := HK3.out; omega⟩, ⟨by (with_reducible repeat (first | apply Kd.R_alloc | apply Kd.R_drewN | apply Kd.R_drew)); exact Kd.R_mono (Kd.R_far (p := ⟨gb212, 6, none⟩) (Kd.R_far (p := ⟨gb212, 5, none⟩) (Kd.R_far (p := ⟨gb212, 4, none⟩) (Kd.R_far (p := ⟨gb212, 3, none⟩) (Kd.R_far (p := ⟨gb212, 2, none⟩) (Kd.R_far (p := ⟨gb212, 1, none⟩) (Kd.R_far (p := ⟨gb212, 0, none⟩) (Kd.R_far (p := ⟨gb225, 6, none⟩) (Kd.R_far (p := ⟨gb225, 5, none⟩) (Kd.R_far (p := ⟨gb225, 4, none⟩) (Kd.R_far (p := ⟨gb225, 3, none⟩) (Kd.R_far (p := ⟨gb225, 2, none⟩) (Kd.R_far (p := ⟨gb225, 1, none⟩) (Kd.R_far (p := ⟨gb225, 0, none⟩) (Kd.R_types (Kd.R_types HO217.out BK225.out (by decide)) BK212.out (by decide)) (fun _ hk => hk.1.2) (.slice Ao41 t215.length co41)) (fun _ hk => hk.1.2) (.int .i64 t218)) (fun _ hk => hk.1.2) (.int .u64 t219)) (fun _ hk => hk.1.2) (.int .u64 t220)) (fun _ hk => hk.1.2) (.int .u64 t221)) (fun _ hk => hk.1.2) (.int .u64 t222)) (fun _ hk => hk.1.2) (.bool t223)) (fun _ hk => hk.2) (.slice Ao41 t215.length co41)) (fun _ hk => hk.2) (.int .i64 t218)) (fun _ hk => hk.2) (.int .u64 t219)) (fun _ hk => hk.2) (.int .u64 t220)) (fun _ hk => hk.2) (.int .u64 t221)) (fun _ hk => hk.2) (.int .u64 t222)) (fun _ hk => hk.2) (.bool t223)) (fun _ hk => trivial)⟩, ⟨by (repeat (first | (with_reducible first | refine blk_drewN ?_ _ | refine blk_drew ?_ | refine blk_alloc ?_ _) | refine blk_far ?_ NB206_212.out _)); (repeat (first | (with_reducible first | refine blk_drewN ?_ _ | refine blk_drew ?_ | refine blk_alloc ?_ _) | refine blk_far ?_ NB206_225.out _)); (with_reducible repeat (first | refine blk_drewN ?_ _ | refine blk_drew ?_ | refine blk_alloc ?_ _)); exact BK206.out⟩, ⟨by (with_reducible repeat (first | refine blk_drewN ?_ _ | refine blk_drew ?_ | refine blk_alloc ?_ _)); refine blk_put (cs := #[.slice Ao41 t215.length co41, .int .i64 t218, .int .u64 t219, .int .u64 t220, .int .u64 t221, .int .u64 t222, .bool x213006_3]) ?_ 6 _ rfl; (with_reducible repeat (first | refine blk_drewN ?_ _ | refine blk_drew ?_ | refine blk_alloc ?_ _)); refine blk_put (cs := #[.slice Ao41 t215.length co41, .int .i64 t218, .int .u64 t219, .int .u64 t220, .int .u64 t221, .int .u64 x213005_3, .bool x213006_3]) ?_ 5 _ rfl; (with_reducible repeat (first | refine blk_drewN ?_ _ | refine blk_drew ?_ | refine blk_alloc ?_ _)); refine blk_put (cs := #[.slice Ao41 t215.length co41, .int .i64 t218, .int .u64 t219, .int .u64 t220, .int .u64 x213004_3, .int .u64 x213005_3, .bool x213006_3]) ?_ 4 _ rfl; (with_reducible repeat (first | refine blk_drewN ?_ _ | refine blk_drew ?_ | refine blk_alloc ?_ _)); refine blk_put (cs := #[.slice Ao41 t215.length co41, .int .i64 t218, .int .u64 t219, .int .u64 x213003_3, .int .u64 x213004_3, .int .u64 x213005_3, .bool x213006_3]) ?_ 3 _ rfl; (with_reducible repeat (first | refine blk_drewN ?_ _ | refine blk_drew ?_ | refine blk_alloc ?_ _)); refine blk_put (cs := #[.slice Ao41 t215.length co41, .int .i64 t218, .int .u64 x213002_3, .int .u64 x213003_3, .int .u64 x213004_3, .int .u64 x213005_3, .bool x213006_3]) ?_ 2 _ rfl; (with_reducible repeat (first | refine blk_drewN ?_ _ | refine blk_drew ?_ | refine blk_alloc ?_ _)); refine blk_put (cs := #[.slice Ao41 t215.length co41, .int .i64 x213001_3, .int .u64 x213002_3, .int .u64 x213003_3, .int .u64 x213004_3, .int .u64 x213005_3, .bool x213006_3]) ?_ 1 _ rfl; (with_reducible repeat (first | refine blk_drewN ?_ _ | refine blk_drew ?_ | refine blk_alloc ?_ _)); refine blk_put (cs := #[.slice Ao38 x213000_3.length co38, .int .i64 x213001_3, .int .u64 x213002_3, .int .u64 x213003_3, .int .u64 x213004_3, .int .u64 x213005_3, .bool x213006_3]) ?_ 0 _ rfl; (repeat (first | (with_reducible first | refine blk_drewN ?_ _ | refine blk_drew ?_ | refine blk_alloc ?_ _) | refine blk_far ?_ NB212_225.out _)); (with_reducible repeat (first | refine blk_drewN ?_ _ | refine blk_drew ?_ | refine blk_alloc ?_ _)); exact BK212.out⟩, ⟨by repeat (first | (with_reducible first | exact HB.out | apply below_alloc | apply pw_below_drewN | apply below_drew1 | refine below_set ?_ GE206.out | refine below_set ?_ GE212.out | refine below_set ?_ GE214.out | refine below_set ?_ GE225.out) | exact HB.out)⟩⟩
                            · rw [if_neg c31] at H
                              have c31b0 : (t224 == 0) = false := beq_eq_false_iff_ne.mpr c31
                              have c31b1 : (t224 != 0) = true := bne_iff_ne.mpr c31
                              simp only [Option.some.injEq, Prod.mk.injEq] at H
                              obtain ⟨rfl, rfl, rfl, rfl, rfl, rfl, rfl, rfl⟩ := H
                              have p213 : 0 ≤ (x38_3 : Int) := of_decide_eq_true (by first | (with_reducible assumption) | assumption)
                              have q213 : x38_3 < (l1.length : Int) := of_decide_eq_true (by first | (with_reducible assumption) | assumption)
                              obtain ⟨ad213, A213_0, c213_0, e213, hx213_0, hx213_1, hx213_2, hx213_3, hx213_4, hx213_5, hx213_6, hl213_0, hi213_0⟩ := at_T27 HR1.out x38_3 p213 q213
                              cases e213
                              replace hx213_0 := (HB.out.cell (World.block_lt_of_cell? w _ hx213_0)).trans hx213_0
                              replace hx213_1 := (HB.out.cell (World.block_lt_of_cell? w _ hx213_1)).trans hx213_1
                              replace hx213_2 := (HB.out.cell (World.block_lt_of_cell? w _ hx213_2)).trans hx213_2
                              replace hx213_3 := (HB.out.cell (World.block_lt_of_cell? w _ hx213_3)).trans hx213_3
                              replace hx213_4 := (HB.out.cell (World.block_lt_of_cell? w _ hx213_4)).trans hx213_4
                              replace hx213_5 := (HB.out.cell (World.block_lt_of_cell? w _ hx213_5)).trans hx213_5
                              replace hx213_6 := (HB.out.cell (World.block_lt_of_cell? w _ hx213_6)).trans hx213_6
                              have HR213_0 := Aside0.mk hi213_0
                              have HC213_0 := Aside0.mk hl213_0
                              clear hi213_0 hl213_0
                              replace p213 := eq_true p213
                              replace q213 := eq_true q213
                              go_wp2_with (first | ((with_reducible refine gate_dst (N := 10) rfl ?_); refine box_event ?hg (N := 10) ?hd (cs := #[.slice none 0 0, .int .i64 0, .int .u64 0, .int .u64 0, .int .u64 0, .int .u64 0, .bool false]) (t := 27) ?hr ?_; (case hd => rfl); (case hg => rfl); (case hr => first | (go_simp; done) | (go_simp; rfl)); intro gb214 hg w47 hbox hb; have n0_ := Aside0.mk (Kd.R_below (by (with_reducible repeat (first | apply Kd.R_alloc | apply Kd.R_drewN | apply Kd.R_drew)); exact HO_213000.out) hb); have n1_ := ledger_Sum.keepB BK206 hb; have n2_ := ledger_Sum.keepB BK212 hb; have n3_ := Aside0.mk (below_step (by repeat (first | (with_reducible first | exact HB.out | apply below_alloc | apply pw_below_drewN | apply below_drew1 | refine below_set ?_ GE206.out | refine below_set ?_ GE212.out) | exact HB.out)) hb); have n4_ := Aside0.mk (hbox); have n5_ := Aside0.mk ((by rw [hg]; exact (below_size (by repeat (first | (with_reducible first | exact HB.out | apply below_alloc | apply pw_below_drewN | apply below_drew1 | refine below_set ?_ GE206.out | refine below_set ?_ GE212.out) | exact HB.out))) : w.heap.size ≤ gb214)); have n6_ := Aside0.mk ((by rw [hg]; exact (below_size (by repeat (first | (with_reducible first | exact HB.out | apply below_alloc | apply pw_below_drewN | apply below_drew1 | refine below_set ?_ GE206.out | refine below_set ?_ GE212.out) | exact HB.out))) : w.heap.size ≤ gb214)); have n7_ := ledger_Sum.neL BK206 hg; have n8_ := ledger_Sum.neG BK206 hg; have n9_ := ledger_Sum.neL BK212 hg; have n10_ := ledger_Sum.neG BK212 hg; clear HO_213000; clear BK206; clear BK212; clear HB; have HO_213000 := n0_; have BK206 := n1_; have BK212 := n2_; have HB := n3_; have BK214 := n4_; have GW214 := n5_; have GE214 := n6_; have NB206_214 := n7_; have NB214_206 := n8_; have NB212_214 := n9_; have NB214_212 := n10_; clear n0_ n1_ n2_ n3_ n4_ n5_ n6_ n7_ n8_ n9_ n10_; clear hb hbox hg; have hnb48 := NB214_206.out; have hnc48 := NB206_214.out; have hnb49 := NB214_212.out; have hnc49 := NB212_214.out; have hcz50_0 : w47.cell? ⟨gb214, 0, none⟩ = some (.slice none 0 0) := (blk_cell BK214.out 0).trans rfl; have hcz50_1 : w47.cell? ⟨gb214, 1, none⟩ = some (.int .i64 0) := (blk_cell BK214.out 1).trans rfl; have hcz50_2 : w47.cell? ⟨gb214, 2, none⟩ = some (.int .u64 0) := (blk_cell BK214.out 2).trans rfl; have hcz50_3 : w47.cell? ⟨gb214, 3, none⟩ = some (.int .u64 0) := (blk_cell BK214.out 3).trans rfl; have hcz50_4 : w47.cell? ⟨gb214, 4, none⟩ = some (.int .u64 0) := (blk_cell BK214.out 4).trans rfl; have hcz50_5 : w47.cell? ⟨gb214, 5, none⟩ = some (.int .u64 0) := (blk_cell BK214.out 5).trans rfl; have hcz50_6 : w47.cell? ⟨gb214, 6, none⟩ = some (.bool false) := (blk_cell BK214.out 6).trans rfl; have hfz50_0 := blk_frozen BK214.out 0; have hfz50_1 := blk_frozen BK214.out 1; have hfz50_2 := blk_frozen BK214.out 2; have hfz50_3 := blk_frozen BK214.out 3; have hfz50_4 := blk_frozen BK214.out 4; have hfz50_5 := blk_frozen BK214.out 5; have hfz50_6 := blk_frozen BK214.out 6; have hnb51 := NB212_206.out; have hnc51 := NB206_212.out; have hcz52_0 : w47.cell? ⟨gb212, 0, none⟩ = some (u213000) := (blk_cell BK212.out 0).trans rfl; have hcz52_1 : w47.cell? ⟨gb212, 1, none⟩ = some (.int .i64 x213001_3) := (blk_cell BK212.out 1).trans rfl; have hcz52_2 : w47.cell? ⟨gb212, 2, none⟩ = some (.int .u64 x213002_3) := (blk_cell BK212.out 2).trans rfl; have hcz52_3 : w47.cell? ⟨gb212, 3, none⟩ = some (.int .u64 x213003_3) := (blk_cell BK212.out 3).trans rfl; have hcz52_4 : w47.cell? ⟨gb212, 4, none⟩ = some (.int .u64 x213004_3) := (blk_cell BK212.out 4).trans rfl; have hcz52_5 : w47.cell? ⟨gb212, 5, none⟩ = some (.int .u64 x213005_3) := (blk_cell BK212.out 5).trans rfl; have hcz52_6 : w47.cell? ⟨gb212, 6, none⟩ = some (.bool x213006_3) := (blk_cell BK212.out 6).trans rfl; have hfz52_0 := blk_frozen BK212.out 0; have hfz52_1 := blk_frozen BK212.out 1; have hfz52_2 := blk_frozen BK212.out 2; have hfz52_3 := blk_frozen BK212.out 3; have hfz52_4 := blk_frozen BK212.out 4; have hfz52_5 := blk_frozen BK212.out 5; have hfz52_6 := blk_frozen BK212.out 6; obtain ⟨Ao53, co53, eo53⟩ := Kd.R_slice HO_213000.out; subst eo53) | ((with_reducible refine gate_callee (f := 7) rfl ?_); refine goesL_ (some 45) rfl rfl Try.func7 (by kernel_rfl) rfl #[.agg #[.slice Ao53 x213000_3.length co53, .int .i64 x213001_3, .int .u64 x213002_3, .int .u64 x213003_3, .int .u64 x213004_3, .int .u64 x213005_3, .bool x213006_3], .agg #[.slice A213_0 ((rd_T27 l1 x38_3).f0).length c213_0, .int .i64 ((rd_T27 l1 x38_3).f1), .int .u64 ((rd_T27 l1 x38_3).f2.f0), .int .u64 ((rd_T27 l1 x38_3).f2.f1), .int .u64 ((rd_T27 l1 x38_3).f3.f0), .int .u64 ((rd_T27 l1 x38_3).f3.f1), .bool ((rd_T27 l1 x38_3).f4)]] rfl (by (try simp only [List.map_toArray, List.map_cons, List.map_nil]); first | done | rfl | (simp only [List.length_drop, List.length_take]; rfl)) ?_; (with_reducible refine (ledger_Add.calls k3 _ _ x213000_3 x213001_3 x213002_3 x213003_3 x213004_3 x213005_3 x213006_3 _ _ ((rd_T27 l1 x38_3).f0) ((rd_T27 l1 x38_3).f1) ((rd_T27 l1 x38_3).f2.f0) ((rd_T27 l1 x38_3).f2.f1) ((rd_T27 l1 x38_3).f3.f0) ((rd_T27 l1 x38_3).f3.f1) ((rd_T27 l1 x38_3).f4) t215 t218 t219 t220 t221 t222 t223 t224 _ ?side1 ?side2 ?side3 ?side4 A30.out).mono ?_); (case side1 => refine (Kd.R_reads' (e := 3) (base := w.heap.size) (ok := fun k_ => True) (n := x213000_3.length) (c := co53) ?_).2.2; exact (by (with_reducible repeat (first | apply Kd.R_alloc | apply Kd.R_drewN | apply Kd.R_drew)); exact (Kd.R_mono (Kd.R_far (p := ⟨gb214, 6, none⟩) (Kd.R_far (p := ⟨gb214, 5, none⟩) (Kd.R_far (p := ⟨gb214, 4, none⟩) (Kd.R_far (p := ⟨gb214, 3, none⟩) (Kd.R_far (p := ⟨gb214, 2, none⟩) (Kd.R_far (p := ⟨gb214, 1, none⟩) (Kd.R_far (p := ⟨gb214, 0, none⟩) (Kd.R_types HO_213000.out BK214.out (by decide)) (fun _ hk => hk.2) (.slice A213_0 ((rd_T27 l1 x38_3).f0).length c213_0)) (fun _ hk => hk.2) (.int .i64 ((rd_T27 l1 x38_3).f1))) (fun _ hk => hk.2) (.int .u64 ((rd_T27 l1 x38_3).f2.f0))) (fun _ hk => hk.2) (.int .u64 ((rd_T27 l1 x38_3).f2.f1))) (fun _ hk => hk.2) (.int .u64 ((rd_T27 l1 x38_3).f3.f0))) (fun _ hk => hk.2) (.int .u64 ((rd_T27 l1 x38_3).f3.f1))) (fun _ hk => hk.2) (.bool ((rd_T27 l1 x38_3).f4))) (fun _ h_ => h_.1)))); (case side2 => exact (Kd.R_reads' HO_213000.out).2.1); (case side3 => exact Kd.C_below HR213_0.out (by repeat (first | (with_reducible first | exact HB.out | apply below_alloc | apply pw_below_drewN | apply below_drew1 | refine below_set ?_ GE206.out | refine below_set ?_ GE212.out | refine below_set ?_ GE214.out) | exact HB.out))); (case side4 => exact HC213_0.out); rintro e w54 ⟨v216, rfl, ho0, hb⟩; refine ⟨_, rfl, ?_⟩; have n0_ := Aside0.mk (Kd.R_elder' (by (with_reducible repeat (first | apply Kd.R_alloc | apply Kd.R_drewN | apply Kd.R_drew)); exact (Kd.R_mono (Kd.R_far (p := ⟨gb214, 6, none⟩) (Kd.R_far (p := ⟨gb214, 5, none⟩) (Kd.R_far (p := ⟨gb214, 4, none⟩) (Kd.R_far (p := ⟨gb214, 3, none⟩) (Kd.R_far (p := ⟨gb214, 2, none⟩) (Kd.R_far (p := ⟨gb214, 1, none⟩) (Kd.R_far (p := ⟨gb214, 0, none⟩) (Kd.R_types HO_213000.out BK214.out (by decide)) (fun _ hk => hk.2) (.slice A213_0 ((rd_T27 l1 x38_3).f0).length c213_0)) (fun _ hk => hk.2) (.int .i64 ((rd_T27 l1 x38_3).f1))) (fun _ hk => hk.2) (.int .u64 ((rd_T27 l1 x38_3).f2.f0))) (fun _ hk => hk.2) (.int .u64 ((rd_T27 l1 x38_3).f2.f1))) (fun _ hk => hk.2) (.int .u64 ((rd_T27 l1 x38_3).f3.f0))) (fun _ hk => hk.2) (.int .u64 ((rd_T27 l1 x38_3).f3.f1))) (fun _ hk => hk.2) (.bool ((rd_T27 l1 x38_3).f4))) (fun _ h_ => h_.1))) (Kd.R_base ho0) hb); have n1_ := Aside0.mk (Kd.R_lower (Kd.R_new' ho0 (Kd.R_lt (by (with_reducible repeat (first | apply Kd.R_alloc | apply Kd.R_drewN | apply Kd.R_drew)); exact (Kd.R_mono (Kd.R_far (p := ⟨gb214, 6, none⟩) (Kd.R_far (p := ⟨gb214, 5, none⟩) (Kd.R_far (p := ⟨gb214, 4, none⟩) (Kd.R_far (p := ⟨gb214, 3, none⟩) (Kd.R_far (p := ⟨gb214, 2, none⟩) (Kd.R_far (p := ⟨gb214, 1, none⟩) (Kd.R_far (p := ⟨gb214, 0, none⟩) (Kd.R_types HO_213000.out BK214.out (by decide)) (fun _ hk => hk.2) (.slice A213_0 ((rd_T27 l1 x38_3).f0).length c213_0)) (fun _ hk => hk.2) (.int .i64 ((rd_T27 l1 x38_3).f1))) (fun _ hk => hk.2) (.int .u64 ((rd_T27 l1 x38_3).f2.f0))) (fun _ hk => hk.2) (.int .u64 ((rd_T27 l1 x38_3).f2.f1))) (fun _ hk => hk.2) (.int .u64 ((rd_T27 l1 x38_3).f3.f0))) (fun _ hk => hk.2) (.int .u64 ((rd_T27 l1 x38_3).f3.f1))) (fun _ hk => hk.2) (.bool ((rd_T27 l1 x38_3).f4))) (fun _ h_ => h_.1))))) (below_size (by repeat (first | (with_reducible first | exact HB.out | apply below_alloc | apply pw_below_drewN | apply below_drew1 | refine below_set ?_ GE206.out | refine below_set ?_ GE212.out | refine below_set ?_ GE214.out) | exact HB.out)))); have n2_ := Aside0.mk (blk_below (g := gb206) (o := .cells #[.slice none 0 0, .int .i64 x207001_3, .int .u64 x207002_3, .int .u64 x207003_3, .int .u64 x207004_3, .int .u64 x207005_3, .bool x207006_3] 27 (0, 0)) (by (repeat (first | (with_reducible first | refine blk_drewN ?_ _ | refine blk_drew ?_ | refine blk_alloc ?_ _) | refine blk_far ?_ NB206_214.out _)); (with_reducible repeat (first | refine blk_drewN ?_ _ | refine blk_drew ?_ | refine blk_alloc ?_ _)); exact BK206.out) hb); have n3_ := Aside0.mk (blk_below (g := gb212) (o := .cells #[.slice Ao53 x213000_3.length co53, .int .i64 x213001_3, .int .u64 x213002_3, .int .u64 x213003_3, .int .u64 x213004_3, .int .u64 x213005_3, .bool x213006_3] 27 (0, 0)) (by (repeat (first | (with_reducible first | refine blk_drewN ?_ _ | refine blk_drew ?_ | refine blk_alloc ?_ _) | refine blk_far ?_ NB212_214.out _)); (with_reducible repeat (first | refine blk_drewN ?_ _ | refine blk_drew ?_ | refine blk_alloc ?_ _)); exact BK212.out) hb); have n4_ := Aside0.mk (blk_below (g := gb214) (o := .cells #[.slice A213_0 ((rd_T27 l1 x38_3).f0).length c213_0, .int .i64 ((rd_T27 l1 x38_3).f1), .int .u64 ((rd_T27 l1 x38_3).f2.f0), .int .u64 ((rd_T27 l1 x38_3).f2.f1), .int .u64 ((rd_T27 l1 x38_3).f3.f0), .int .u64 ((rd_T27 l1 x38_3).f3.f1), .bool ((rd_T27 l1 x38_3).f4)] 27 (0, 0)) (by (with_reducible repeat (first | refine blk_drewN ?_ _ | refine blk_drew ?_ | refine blk_alloc ?_ _)); refine blk_put (cs := #[.slice A213_0 ((rd_T27 l1 x38_3).f0).length c213_0, .int .i64 ((rd_T27 l1 x38_3).f1), .int .u64 ((rd_T27 l1 x38_3).f2.f0), .int .u64 ((rd_T27 l1 x38_3).f2.f1), .int .u64 ((rd_T27 l1 x38_3).f3.f0), .int .u64 ((rd_T27 l1 x38_3).f3.f1), .bool false]) ?_ 6 _ rfl; (with_reducible repeat (first | refine blk_drewN ?_ _ | refine blk_drew ?_ | refine blk_alloc ?_ _)); refine blk_put (cs := #[.slice A213_0 ((rd_T27 l1 x38_3).f0).length c213_0, .int .i64 ((rd_T27 l1 x38_3).f1), .int .u64 ((rd_T27 l1 x38_3).f2.f0), .int .u64 ((rd_T27 l1 x38_3).f2.f1), .int .u64 ((rd_T27 l1 x38_3).f3.f0), .int .u64 0, .bool false]) ?_ 5 _ rfl; (with_reducible repeat (first | refine blk_drewN ?_ _ | refine blk_drew ?_ | refine blk_alloc ?_ _)); refine blk_put (cs := #[.slice A213_0 ((rd_T27 l1 x38_3).f0).length c213_0, .int .i64 ((rd_T27 l1 x38_3).f1), .int .u64 ((rd_T27 l1 x38_3).f2.f0), .int .u64 ((rd_T27 l1 x38_3).f2.f1), .int .u64 0, .int .u64 0, .bool false]) ?_ 4 _ rfl; (with_reducible repeat (first | refine blk_drewN ?_ _ | refine blk_drew ?_ | refine blk_alloc ?_ _)); refine blk_put (cs := #[.slice A213_0 ((rd_T27 l1 x38_3).f0).length c213_0, .int .i64 ((rd_T27 l1 x38_3).f1), .int .u64 ((rd_T27 l1 x38_3).f2.f0), .int .u64 0, .int .u64 0, .int .u64 0, .bool false]) ?_ 3 _ rfl; (with_reducible repeat (first | refine blk_drewN ?_ _ | refine blk_drew ?_ | refine blk_alloc ?_ _)); refine blk_put (cs := #[.slice A213_0 ((rd_T27 l1 x38_3).f0).length c213_0, .int .i64 ((rd_T27 l1 x38_3).f1), .int .u64 0, .int .u64 0, .int .u64 0, .int .u64 0, .bool false]) ?_ 2 _ rfl; (with_reducible repeat (first | refine blk_drewN ?_ _ | refine blk_drew ?_ | refine blk_alloc ?_ _)); refine blk_put (cs := #[.slice A213_0 ((rd_T27 l1 x38_3).f0).length c213_0, .int .i64 0, .int .u64 0, .int .u64 0, .int .u64 0, .int .u64 0, .bool false]) ?_ 1 _ rfl; (with_reducible repeat (first | refine blk_drewN ?_ _ | refine blk_drew ?_ | refine blk_alloc ?_ _)); refine blk_put (cs := #[.slice none 0 0, .int .i64 0, .int .u64 0, .int .u64 0, .int .u64 0, .int .u64 0, .bool false]) ?_ 0 _ rfl; (with_reducible repeat (first | refine blk_drewN ?_ _ | refine blk_drew ?_ | refine blk_alloc ?_ _)); exact BK214.out) hb); have n5_ := Aside0.mk (below_step (by repeat (first | (with_reducible first | exact HB.out | apply below_alloc | apply pw_below_drewN | apply below_drew1 | refine below_set ?_ GE206.out | refine below_set ?_ GE212.out | refine below_set ?_ GE214.out) | exact HB.out)) hb); clear HO_213000; clear BK206; clear BK212; clear BK214; clear HB; have HO_213000 := n0_; have HO217 := n1_; have BK206 := n2_; have BK212 := n3_; have BK214 := n4_; have HB := n5_; clear n0_ n1_ n2_ n3_ n4_ n5_; (try clear hb); (try clear hb2); (try clear hk); (try clear hi); (try clear ho0)) | ((with_reducible refine gate_dst (N := 11) rfl ?_); refine box_event ?hg (N := 11) ?hd (cs := #[.slice none 0 0, .int .i64 0, .int .u64 0, .int .u64 0, .int .u64 0, .int .u64 0, .bool false]) (t := 27) ?hr ?_; (case hd => rfl); (case hg => rfl); (case hr => first | (go_simp; done) | (go_simp; rfl)); intro gb225 hg w55 hbox hb; have n0_ := Aside0.mk (Kd.R_below (by (with_reducible repeat (first | apply Kd.R_alloc | apply Kd.R_drewN | apply Kd.R_drew)); exact HO_213000.out) hb); have n1_ := Aside0.mk (Kd.R_below (by (with_reducible repeat (first | apply Kd.R_alloc | apply Kd.R_drewN | apply Kd.R_drew)); exact HO217.out) hb); have n2_ := ledger_Sum.keepB BK206 hb; have n3_ := ledger_Sum.keepB BK212 hb; have n4_ := ledger_Sum.keepB BK214 hb; have n5_ := Aside0.mk (below_step (by repeat (first | (with_reducible first | exact HB.out | apply below_alloc | apply pw_below_drewN | apply below_drew1 | refine below_set ?_ GE206.out | refine below_set ?_ GE212.out | refine below_set ?_ GE214.out) | exact HB.out)) hb); have n6_ := Aside0.mk (hbox); have n7_ := Aside0.mk ((by rw [hg]; exact (below_size (by repeat (first | (with_reducible first | exact HB.out | apply below_alloc | apply pw_below_drewN | apply below_drew1 | refine below_set ?_ GE206.out | refine below_set ?_ GE212.out | refine below_set ?_ GE214.out) | exact HB.out))) : w.heap.size ≤ gb225)); have n8_ := Aside0.mk ((by rw [hg]; exact (below_size (by repeat (first | (with_reducible first | exact HB.out | apply below_alloc | apply pw_below_drewN | apply below_drew1 | refine below_set ?_ GE206.out | refine below_set ?_ GE212.out | refine below_set ?_ GE214.out) | exact HB.out))) : w.heap.size ≤ gb225)); have n9_ := ledger_Sum.neL BK206 hg; have n10_ := ledger_Sum.neG BK206 hg; have n11_ := ledger_Sum.neL BK212 hg; have n12_ := ledger_Sum.neG BK212 hg; have n13_ := ledger_Sum.neL BK214 hg; have n14_ := ledger_Sum.neG BK214 hg; clear HO_213000; clear HO217; clear BK206; clear BK212; clear BK214; clear HB; have HO_213000 := n0_; have HO217 := n1_; have BK206 := n2_; have BK212 := n3_; have BK214 := n4_; have HB := n5_; have BK225 := n6_; have GW225 := n7_; have GE225 := n8_; have NB206_225 := n9_; have NB225_206 := n10_; have NB212_225 := n11_; have NB225_212 := n12_; have NB214_225 := n13_; have NB225_214 := n14_; clear n0_ n1_ n2_ n3_ n4_ n5_ n6_ n7_ n8_ n9_ n10_ n11_ n12_ n13_ n14_; clear hb hbox hg; obtain ⟨Ao56, co56, eo56⟩ := Kd.R_slice HO217.out; subst eo56; have hnb57 := NB225_206.out; have hnc57 := NB206_225.out; have hnb58 := NB225_212.out; have hnc58 := NB212_225.out; have hnb59 := NB225_214.out; have hnc59 := NB214_225.out; have hcz60_0 : w55.cell? ⟨gb225, 0, none⟩ = some (.slice none 0 0) := (blk_cell BK225.out 0).trans rfl; have hcz60_1 : w55.cell? ⟨gb225, 1, none⟩ = some (.int .i64 0) := (blk_cell BK225.out 1).trans rfl; have hcz60_2 : w55.cell? ⟨gb225, 2, none⟩ = some (.int .u64 0) := (blk_cell BK225.out 2).trans rfl; have hcz60_3 : w55.cell? ⟨gb225, 3, none⟩ = some (.int .u64 0) := (blk_cell BK225.out 3).trans rfl; have hcz60_4 : w55.cell? ⟨gb225, 4, none⟩ = some (.int .u64 0) := (blk_cell BK225.out 4).trans rfl; have hcz60_5 : w55.cell? ⟨gb225, 5, none⟩ = some (.int .u64 0) := (blk_cell BK225.out 5).trans rfl; have hcz60_6 : w55.cell? ⟨gb225, 6, none⟩ = some (.bool false) := (blk_cell BK225.out 6).trans rfl; have hfz60_0 := blk_frozen BK225.out 0; have hfz60_1 := blk_frozen BK225.out 1; have hfz60_2 := blk_frozen BK225.out 2; have hfz60_3 := blk_frozen BK225.out 3; have hfz60_4 := blk_frozen BK225.out 4; have hfz60_5 := blk_frozen BK225.out 5; have hfz60_6 := blk_frozen BK225.out 6; have hcz61_0 : w55.cell? ⟨gb206, 0, none⟩ = some (.slice none 0 0) := (blk_cell BK206.out 0).trans rfl; have hcz61_1 : w55.cell? ⟨gb206, 1, none⟩ = some (.int .i64 x207001_3) := (blk_cell BK206.out 1).trans rfl; have hcz61_2 : w55.cell? ⟨gb206, 2, none⟩ = some (.int .u64 x207002_3) := (blk_cell BK206.out 2).trans rfl; have hcz61_3 : w55.cell? ⟨gb206, 3, none⟩ = some (.int .u64 x207003_3) := (blk_cell BK206.out 3).trans rfl; have hcz61_4 : w55.cell? ⟨gb206, 4, none⟩ = some (.int .u64 x207004_3) := (blk_cell BK206.out 4).trans rfl; have hcz61_5 : w55.cell? ⟨gb206, 5, none⟩ = some (.int .u64 x207005_3) := (blk_cell BK206.out 5).trans rfl; have hcz61_6 : w55.cell? ⟨gb206, 6, none⟩ = some (.bool x207006_3) := (blk_cell BK206.out 6).trans rfl; have hfz61_0 := blk_frozen BK206.out 0; have hfz61_1 := blk_frozen BK206.out 1; have hfz61_2 := blk_frozen BK206.out 2; have hfz61_3 := blk_frozen BK206.out 3; have hfz61_4 := blk_frozen BK206.out 4; have hfz61_5 := blk_frozen BK206.out 5; have hfz61_6 := blk_frozen BK206.out 6))
                              refine bodyPost_ret (results_ct rfl _ _ gb206 27 #[.slice none 0 0, .int .i64 0, .int .u64 0, .int .u64 0, .int .u64 0, .int .u64 0, .bool false] (0, 0) _ rfl (by (with_reducible repeat (first | refine blk_drewN ?_ _ | refine blk_drew ?_ | refine blk_alloc ?_ _)); refine blk_put (cs := #[.slice none 0 0, .int .i64 0, .int .u64 0, .int .u64 0, .int .u64 0, .int .u64 0, .bool x207006_3]) ?_ 6 _ rfl; (with_reducible repeat (first | refine blk_drewN ?_ _ | refine blk_drew ?_ | refine blk_alloc ?_ _)); refine blk_put (cs := #[.slice none 0 0, .int .i64 0, .int .u64 0, .int .u64 0, .int .u64 0, .int .u64 x207005_3, .bool x207006_3]) ?_ 5 _ rfl; (with_reducible repeat (first | refine blk_drewN ?_ _ | refine blk_drew ?_ | refine blk_alloc ?_ _)); refine blk_put (cs := #[.slice none 0 0, .int .i64 0, .int .u64 0, .int .u64 0, .int .u64 x207004_3, .int .u64 x207005_3, .bool x207006_3]) ?_ 4 _ rfl; (with_reducible repeat (first | refine blk_drewN ?_ _ | refine blk_drew ?_ | refine blk_alloc ?_ _)); refine blk_put (cs := #[.slice none 0 0, .int .i64 0, .int .u64 0, .int .u64 x207003_3, .int .u64 x207004_3, .int .u64 x207005_3, .bool x207006_3]) ?_ 3 _ rfl; (with_reducible repeat (first | refine blk_drewN ?_ _ | refine blk_drew ?_ | refine blk_alloc ?_ _)); refine blk_put (cs := #[.slice none 0 0, .int .i64 0, .int .u64 x207002_3, .int .u64 x207003_3, .int .u64 x207004_3, .int .u64 x207005_3, .bool x207006_3]) ?_ 2 _ rfl; (with_reducible repeat (first | refine blk_drewN ?_ _ | refine blk_drew ?_ | refine blk_alloc ?_ _)); refine blk_put (cs := #[.slice none 0 0, .int .i64 x207001_3, .int .u64 x207002_3, .int .u64 x207003_3, .int .u64 x207004_3, .int .u64 x207005_3, .bool x207006_3]) ?_ 1 _ rfl; (with_reducible repeat (first | refine blk_drewN ?_ _ | refine blk_drew ?_ | refine blk_alloc ?_ _)); refine blk_put (cs := #[.slice none 0 0, .int .i64 x207001_3, .int .u64 x207002_3, .int .u64 x207003_3, .int .u64 x207004_3, .int .u64 x207005_3, .bool x207006_3]) ?_ 0 _ rfl; (repeat (first | (with_reducible first | refine blk_drewN ?_ _ | refine blk_drew ?_ | refine blk_alloc ?_ _) | refine blk_far ?_ NB206_225.out _)); (with_reducible repeat (first | refine blk_drewN ?_ _ | refine blk_drew ?_ | refine blk_alloc ?_ _)); exact BK206.out) Try.underlying27 rfl (by kernel_rfl)) rfl ?_
                              exact ⟨_, by first | rfl | (simp [errW_none, errW_some] <;> rfl) | (simp [*, errW_none, errW_some] <;> rfl), by first | exact Kd.R_nil _ _ _ _ _ | exact Kd.N_nil _ _ _ _ _ | exact Kd.V_nil _ _ _ _ _ | exact Kd.Q_nil _ _ _ _ _ | exact Kd.S_nil _ _ _ _ _, by repeat (first | (with_reducible first | exact HB.out | apply below_alloc | apply pw_below_drewN | apply below_drew1 | refine below_set ?_ GE206.out | refine below_set ?_ GE212.out | refine below_set ?_ GE214.out | refine below_set ?_ GE225.out) | exact HB.out)⟩
                          · rw [if_neg c29] at H
                            exact absurd H (by simp)
                        · rw [if_neg c28] at H
                          exact absurd H (by simp)
                      · rw [if_neg c27] at H
                        have c27b0 : decide (x38_3 < (l1.length : Int)) = false := decide_eq_false c27
                        clear c27
                        simp only [Option.some.injEq, Prod.mk.injEq] at H
                        obtain ⟨rfl, rfl, rfl, rfl, rfl, rfl, rfl, rfl⟩ := H
                        have hnb62 := NB212_206.out
                        have hnc62 := NB206_212.out
                        have hcz63_0 : wr.cell? ⟨gb212, 0, none⟩ = some (u213000) := (blk_cell BK212.out 0).trans rfl
                        have hcz63_1 : wr.cell? ⟨gb212, 1, none⟩ = some (.int .i64 x213001_3) := (blk_cell BK212.out 1).trans rfl
                        have hcz63_2 : wr.cell? ⟨gb212, 2, none⟩ = some (.int .u64 x213002_3) := (blk_cell BK212.out 2).trans rfl
                        have hcz63_3 : wr.cell? ⟨gb212, 3, none⟩ = some (.int .u64 x213003_3) := (blk_cell BK212.out 3).trans rfl
                        have hcz63_4 : wr.cell? ⟨gb212, 4, none⟩ = some (.int .u64 x213004_3) := (blk_cell BK212.out 4).trans rfl
                        have hcz63_5 : wr.cell? ⟨gb212, 5, none⟩ = some (.int .u64 x213005_3) := (blk_cell BK212.out 5).trans rfl
                        have hcz63_6 : wr.cell? ⟨gb212, 6, none⟩ = some (.bool x213006_3) := (blk_cell BK212.out 6).trans rfl
                        have hfz63_0 := blk_frozen BK212.out 0
                        have hfz63_1 := blk_frozen BK212.out 1
                        have hfz63_2 := blk_frozen BK212.out 2
                        have hfz63_3 := blk_frozen BK212.out 3
                        have hfz63_4 := blk_frozen BK212.out 4
                        have hfz63_5 := blk_frozen BK212.out 5
                        have hfz63_6 := blk_frozen BK212.out 6
                        obtain ⟨Ao64, co64, eo64⟩ := Kd.R_slice HO_213000.out
                        subst eo64
                        have hcz65_0 : wr.cell? ⟨gb206, 0, none⟩ = some (.slice none 0 0) := (blk_cell BK206.out 0).trans rfl
                        have hcz65_1 : wr.cell? ⟨gb206, 1, none⟩ = some (.int .i64 x207001_3) := (blk_cell BK206.out 1).trans rfl
                        have hcz65_2 : wr.cell? ⟨gb206, 2, none⟩ = some (.int .u64 x207002_3) := (blk_cell BK206.out 2).trans rfl
                        have hcz65_3 : wr.cell? ⟨gb206, 3, none⟩ = some (.int .u64 x207003_3) := (blk_cell BK206.out 3).trans rfl
                        have hcz65_4 : wr.cell? ⟨gb206, 4, none⟩ = some (.int .u64 x207004_3) := (blk_cell BK206.out 4).trans rfl
                        have hcz65_5 : wr.cell? ⟨gb206, 5, none⟩ = some (.int .u64 x207005_3) := (blk_cell BK206.out 5).trans rfl
                        have hcz65_6 : wr.cell? ⟨gb206, 6, none⟩ = some (.bool x207006_3) := (blk_cell BK206.out 6).trans rfl
                        have hfz65_0 := blk_frozen BK206.out 0
                        have hfz65_1 := blk_frozen BK206.out 1
                        have hfz65_2 := blk_frozen BK206.out 2
                        have hfz65_3 := blk_frozen BK206.out 3
                        have hfz65_4 := blk_frozen BK206.out 4
                        have hfz65_5 := blk_frozen BK206.out 5
                        have hfz65_6 := blk_frozen BK206.out 6
                        go_wp2
                        refine bodyPost_ret (results_ct rfl _ _ gb206 27 #[.slice Ao64 x213000_3.length co64, .int .i64 x213001_3, .int .u64 x213002_3, .int .u64 x213003_3, .int .u64 x213004_3, .int .u64 x213005_3, .bool x213006_3] (0, 0) _ rfl (by (with_reducible repeat (first | refine blk_drewN ?_ _ | refine blk_drew ?_ | refine blk_alloc ?_ _)); refine blk_put (cs := #[.slice Ao64 x213000_3.length co64, .int .i64 x213001_3, .int .u64 x213002_3, .int .u64 x213003_3, .int .u64 x213004_3, .int .u64 x213005_3, .bool x207006_3]) ?_ 6 _ rfl; (with_reducible repeat (first | refine blk_drewN ?_ _ | refine blk_drew ?_ | refine blk_alloc ?_ _)); refine blk_put (cs := #[.slice Ao64 x213000_3.length co64, .int .i64 x213001_3, .int .u64 x213002_3, .int .u64 x213003_3, .int .u64 x213004_3, .int .u64 x207005_3, .bool x207006_3]) ?_ 5 _ rfl; (with_reducible repeat (first | refine blk_drewN ?_ _ | refine blk_drew ?_ | refine blk_alloc ?_ _)); refine blk_put (cs := #[.slice Ao64 x213000_3.length co64, .int .i64 x213001_3, .int .u64 x213002_3, .int .u64 x213003_3, .int .u64 x207004_3, .int .u64 x207005_3, .bool x207006_3]) ?_ 4 _ rfl; (with_reducible repeat (first | refine blk_drewN ?_ _ | refine blk_drew ?_ | refine blk_alloc ?_ _)); refine blk_put (cs := #[.slice Ao64 x213000_3.length co64, .int .i64 x213001_3, .int .u64 x213002_3, .int .u64 x207003_3, .int .u64 x207004_3, .int .u64 x207005_3, .bool x207006_3]) ?_ 3 _ rfl; (with_reducible repeat (first | refine blk_drewN ?_ _ | refine blk_drew ?_ | refine blk_alloc ?_ _)); refine blk_put (cs := #[.slice Ao64 x213000_3.length co64, .int .i64 x213001_3, .int .u64 x207002_3, .int .u64 x207003_3, .int .u64 x207004_3, .int .u64 x207005_3, .bool x207006_3]) ?_ 2 _ rfl; (with_reducible repeat (first | refine blk_drewN ?_ _ | refine blk_drew ?_ | refine blk_alloc ?_ _)); refine blk_put (cs := #[.slice Ao64 x213000_3.length co64, .int .i64 x207001_3, .int .u64 x207002_3, .int .u64 x207003_3, .int .u64 x207004_3, .int .u64 x207005_3, .bool x207006_3]) ?_ 1 _ rfl; (with_reducible repeat (first | refine blk_drewN ?_ _ | refine blk_drew ?_ | refine blk_alloc ?_ _)); refine blk_put (cs := #[.slice none 0 0, .int .i64 x207001_3, .int .u64 x207002_3, .int .u64 x207003_3, .int .u64 x207004_3, .int .u64 x207005_3, .bool x207006_3]) ?_ 0 _ rfl; (with_reducible repeat (first | refine blk_drewN ?_ _ | refine blk_drew ?_ | refine blk_alloc ?_ _)); exact BK206.out) Try.underlying27 rfl (by kernel_rfl)) rfl ?_
                        exact ⟨_, by first | rfl | (simp [errW_none, errW_some] <;> rfl) | (simp [*, errW_none, errW_some] <;> rfl), by (with_reducible repeat (first | apply Kd.R_alloc | apply Kd.R_drewN | apply Kd.R_drew)); exact Kd.R_mono (Kd.R_far (p := ⟨gb206, 6, none⟩) (Kd.R_far (p := ⟨gb206, 5, none⟩) (Kd.R_far (p := ⟨gb206, 4, none⟩) (Kd.R_far (p := ⟨gb206, 3, none⟩) (Kd.R_far (p := ⟨gb206, 2, none⟩) (Kd.R_far (p := ⟨gb206, 1, none⟩) (Kd.R_far (p := ⟨gb206, 0, none⟩) (Kd.R_types HO_213000.out BK206.out (by decide)) (fun _ hk => hk.2) (.slice Ao64 x213000_3.length co64)) (fun _ hk => hk.2) (.int .i64 x213001_3)) (fun _ hk => hk.2) (.int .u64 x213002_3)) (fun _ hk => hk.2) (.int .u64 x213003_3)) (fun _ hk => hk.2) (.int .u64 x213004_3)) (fun _ hk => hk.2) (.int .u64 x213005_3)) (fun _ hk => hk.2) (.bool x213006_3)) (fun _ hk => trivial), by repeat (first | (with_reducible first | exact HB.out | apply below_alloc | apply pw_below_drewN | apply below_drew1 | refine below_set ?_ GE206.out | refine below_set ?_ GE212.out) | exact HB.out)⟩
                · rw [if_neg c20] at H
                  exact absurd H (by simp)
              · rw [if_neg c19] at H
                exact absurd H (by simp)

/-! ### offertorylaw29_awake: function 9 -/
/-! ### the ledger laws' fixed fact -/
/-- A box that holds stats. -/
structure Bx (w : World) (g : Nat) (A : Option Addr) (c : Nat) (l : List Int) (n s t q r : Int) (b : Bool) : Prop where
  hg : w.heap[g]? = some (.cells #[.slice A l.length c, .int .i64 n, .int .u64 s, .int .u64 t, .int .u64 q, .int .u64 r, .bool b] 27 (0, 0))
  hc : l.length ≤ c
  hr : Kd.C (Kd.int .i64) w A l.length l
theorem Bx.below {w w' : World} {g : Nat} {A : Option Addr} {c : Nat} {l : List Int} {n s t q r : Int} {b : Bool} (h : Bx w g A c l n s t q r b) (hb : Below w.heap.size w w') : Bx w' g A c l n s t q r b := ⟨blk_below h.hg hb, h.hc, Kd.C_below h.hr hb⟩
theorem lit2 {w : World} {g : Nat} {x y : Int} (h : w.heap[g]? = some (.cells #[.int .i64 x, .int .i64 y] 3 (0, 0))) : Kd.C (Kd.int .i64) w (some ⟨g, 0, none⟩) 2 [x, y] := by
  refine ⟨rfl, by decide, fun _ => ⟨_, rfl, fun j p hj => ?_⟩⟩
  match j with
  | 0 =>
    obtain rfl := Option.some.inj hj
    exact ⟨[.int .i64 x], rfl, rfl, fun i u hu => by
      match i with
      | 0 => obtain rfl := Option.some.inj hu; exact (blk_cell h 0).trans rfl
      | i + 1 => cases hu⟩
  | 1 =>
    obtain rfl := Option.some.inj hj
    exact ⟨[.int .i64 y], rfl, rfl, fun i u hu => by
      match i with
      | 0 => obtain rfl := Option.some.inj hu; exact (blk_cell h 1).trans rfl
      | i + 1 => cases hu⟩
  | j + 2 => cases hj
theorem two27 {w : World} {g : Nat} {x y : S27} {c0 c1 c2 c3 c4 c5 c6 d0 d1 d2 d3 d4 d5 d6 : Value} (h : w.heap[g]? = some (.cells #[c0, c1, c2, c3, c4, c5, c6, d0, d1, d2, d3, d4, d5, d6] 27 (0, 0))) (hx : k27.K w x [c0, c1, c2, c3, c4, c5, c6]) (hy : k27.K w y [d0, d1, d2, d3, d4, d5, d6]) : Kd.C k27 w (some ⟨g, 0, none⟩) 2 [x, y] := by
  refine ⟨rfl, by decide, fun _ => ⟨_, rfl, fun j p hj => ?_⟩⟩
  match j with
  | 0 =>
    obtain rfl := Option.some.inj hj
    refine ⟨_, rfl, hx, fun i u hu => ?_⟩
    match i with
    | 0 => obtain rfl := Option.some.inj hu; exact (blk_cell h 0).trans rfl
    | 1 => obtain rfl := Option.some.inj hu; exact (blk_cell h 1).trans rfl
    | 2 => obtain rfl := Option.some.inj hu; exact (blk_cell h 2).trans rfl
    | 3 => obtain rfl := Option.some.inj hu; exact (blk_cell h 3).trans rfl
    | 4 => obtain rfl := Option.some.inj hu; exact (blk_cell h 4).trans rfl
    | 5 => obtain rfl := Option.some.inj hu; exact (blk_cell h 5).trans rfl
    | 6 => obtain rfl := Option.some.inj hu; exact (blk_cell h 6).trans rfl
    | i + 7 => cases hu
  | 1 =>
    obtain rfl := Option.some.inj hj
    refine ⟨_, rfl, hy, fun i u hu => ?_⟩
    match i with
    | 0 => obtain rfl := Option.some.inj hu; exact (blk_cell h 7).trans rfl
    | 1 => obtain rfl := Option.some.inj hu; exact (blk_cell h 8).trans rfl
    | 2 => obtain rfl := Option.some.inj hu; exact (blk_cell h 9).trans rfl
    | 3 => obtain rfl := Option.some.inj hu; exact (blk_cell h 10).trans rfl
    | 4 => obtain rfl := Option.some.inj hu; exact (blk_cell h 11).trans rfl
    | 5 => obtain rfl := Option.some.inj hu; exact (blk_cell h 12).trans rfl
    | 6 => obtain rfl := Option.some.inj hu; exact (blk_cell h 13).trans rfl
    | i + 7 => cases hu
  | j + 2 => cases hj
theorem wp_genL {P : Program} {c : Code} {Q : Exit → Act → World → Prop} {a : Act} {W : World} (I : World → Prop) (h : I W) (k : ∀ W', I W' → c.wp P Q a W') : c.wp P Q a W := k W h
theorem calls_genL {P : Program} {f : FuncId} {args : Array Value} {R : Ending → World → Prop} {W : World} (I : World → Prop) (h : I W) (k : ∀ W', I W' → Calls P f args W' R) : Calls P f args W R := k W h
theorem new_at (W : World) (o : Obj) {g : Nat} (hg : W.heap.size = g) : (W.alloc o).heap[g]? = some o := by subst hg; exact blk_new W o
abbrev boxOf (A : Option Addr) (a b c d e : Int) (g : Bool) : Obj := .cells #[.slice A 2 2, .int .i64 a, .int .u64 b, .int .u64 c, .int .u64 d, .int .u64 e, .bool g] 27
theorem start2 (w : World) (x y a b c d e : Int) (g : Bool) : Below w.heap.size w ((w.alloc (.cells #[.int .i64 x, .int .i64 y] 3)).alloc (boxOf (some ⟨w.heap.size, 0, none⟩) a b c d e g)) ∧ Bx ((w.alloc (.cells #[.int .i64 x, .int .i64 y] 3)).alloc (boxOf (some ⟨w.heap.size, 0, none⟩) a b c d e g)) (w.heap.size + 1) (some ⟨w.heap.size, 0, none⟩) 2 [x, y] a b c d e g := by
  refine ⟨below_alloc (below_alloc (Below.refl _ _) _) _, new_at _ _ (alloc_size _ _), Nat.le_refl 2, Kd.C_below (lit2 (blk_new w _)) (below_alloc (Below.refl _ _) _)⟩
theorem start4 (w : World) :
    Below w.heap.size w ((((w.alloc (.cells #[.int .i64 1, .int .i64 2] 3)).alloc (boxOf (some ⟨w.heap.size, 0, none⟩) 3 0 5 0 30 false)).alloc (.cells #[.int .i64 1, .int .i64 0] 3)).alloc (boxOf (some ⟨w.heap.size + 1 + 1, 0, none⟩) 1 0 9 0 81 true)) ∧ Bx ((((w.alloc (.cells #[.int .i64 1, .int .i64 2] 3)).alloc (boxOf (some ⟨w.heap.size, 0, none⟩) 3 0 5 0 30 false)).alloc (.cells #[.int .i64 1, .int .i64 0] 3)).alloc (boxOf (some ⟨w.heap.size + 1 + 1, 0, none⟩) 1 0 9 0 81 true)) (w.heap.size + 1) (some ⟨w.heap.size, 0, none⟩) 2 [1, 2] 3 0 5 0 30 false ∧ Bx ((((w.alloc (.cells #[.int .i64 1, .int .i64 2] 3)).alloc (boxOf (some ⟨w.heap.size, 0, none⟩) 3 0 5 0 30 false)).alloc (.cells #[.int .i64 1, .int .i64 0] 3)).alloc (boxOf (some ⟨w.heap.size + 1 + 1, 0, none⟩) 1 0 9 0 81 true)) (w.heap.size + 1 + 1 + 1) (some ⟨w.heap.size + 1 + 1, 0, none⟩) 2 [1, 0] 1 0 9 0 81 true := by
  obtain ⟨h1, x1⟩ := start2 w 1 2 3 0 5 0 30 false
  have h2 := start2 ((w.alloc (.cells #[.int .i64 1, .int .i64 2] 3)).alloc (boxOf (some ⟨w.heap.size, 0, none⟩) 3 0 5 0 30 false)) 1 0 1 0 9 0 81 true
  rw [alloc_size, alloc_size] at h2
  exact ⟨below_step h1 (by have := h2.1; rwa [alloc_size, alloc_size]), x1.below (by have := h2.1; rwa [alloc_size, alloc_size]), h2.2⟩
theorem addL_at (k : Nat) (A1 : Option Addr) (c1 m : Nat) (p1 : List Int) (p2 p3 p4 p5 p6 : Int) (p7 : Bool) (A2 : Option Addr) (c2 n : Nat) (q1 : List Int) (q2 q3 q4 q5 q6 : Int) (q7 : Bool) (r1 : List Int) (r2 r3 r4 r5 r6 : Int) (r7 : Bool) (r8 : Int) (w : World) (hm : p1.length = m) (hn : q1.length = n) (hr1 : Kd.C (Kd.int .i64) w A1 m p1) (hc1 : m ≤ c1) (hr2 : Kd.C (Kd.int .i64) w A2 n q1) (hc2 : n ≤ c2) (h : ledger_Add.f k p1 p2 p3 p4 p5 p6 p7 q1 q2 q3 q4 q5 q6 q7 = some (r1, r2, r3, r4, r5, r6, r7, r8)) :
    Calls Try.prog 7 #[.agg #[.slice A1 m c1, .int .i64 p2, .int .u64 p3, .int .u64 p4, .int .u64 p5, .int .u64 p6, .bool p7], .agg #[.slice A2 n c2, .int .i64 q2, .int .u64 q3, .int .u64 q4, .int .u64 q5, .int .u64 q6, .bool q7]] w fun e w' => ∃ v0_ : Value, e = .returned (.tuple #[.agg #[v0_, .int .i64 r2, .int .u64 r3, .int .u64 r4, .int .u64 r5, .int .u64 r6, .bool r7], .int .i64 r8]) ∧ Kd.R (Kd.int .i64) 3 w' w.heap.size (fun _ => True) v0_ r1 ∧ Below w.heap.size w w' := by
  subst hm hn
  exact ledger_Add.calls k A1 c1 p1 p2 p3 p4 p5 p6 p7 A2 c2 q1 q2 q3 q4 q5 q6 q7 r1 r2 r3 r4 r5 r6 r7 r8 w hr1 hc1 hr2 hc2 h
def awSum : List S27 := [⟨[1, 2], 3, ⟨0, 5⟩, ⟨0, 30⟩, false⟩, ⟨[1, 0], 1, ⟨0, 9⟩, ⟨0, 81⟩, true⟩]
def offertorylaw29_awake.f (k : Nat) : Option Bool :=
  (ledger_Add.f k ([1, 2] : List Int) 3 0 5 0 30 false ([1, 0] : List Int) 1 0 9 0 81 true).bind fun c => (ledger_Sub.f k c.1 c.2.1 c.2.2.1 c.2.2.2.1 c.2.2.2.2.1 c.2.2.2.2.2.1 c.2.2.2.2.2.2.1 ([1, 0] : List Int) 1 0 9 0 81 true).bind fun d => (ledger_Sum.f k 2 awSum).bind fun x => (ledger_Sub.f k ([1, 0] : List Int) 1 0 9 0 81 true ([1, 2] : List Int) 3 0 5 0 30 false).bind fun h =>
  (offertoryref09_Same.f k d.1 d.2.1 d.2.2.1 d.2.2.2.1 d.2.2.2.2.1 d.2.2.2.2.2.1 d.2.2.2.2.2.2.1 ([1, 2] : List Int) 3 0 5 0 30 false).bind fun s1 => (offertoryref09_Same.f k x.1 x.2.1 x.2.2.1 x.2.2.2.1 x.2.2.2.2.1 x.2.2.2.2.2.1 x.2.2.2.2.2.2.1 c.1 c.2.1 c.2.2.1 c.2.2.2.1 c.2.2.2.2.1 c.2.2.2.2.2.1 c.2.2.2.2.2.2.1).bind fun s2 =>
  if (c.2.2.2.2.2.2.2 = 0 ∧ d.2.2.2.2.2.2.2 = 0 ∧ x.2.2.2.2.2.2.2 = 0 ∧ h.2.2.2.2.2.2.2 = 4) ∧ (c.2.1 = 4 ∧ c.2.2.2.2.2.2.1 = true ∧ c.2.2.2.1 = 4) ∧ s1 = true ∧ s2 = true then some true else none
theorem offertorylaw29_awake.mono : ∀ k, LeO (offertorylaw29_awake.f k) (offertorylaw29_awake.f (k + 1)) := by
  intro k
  unfold offertorylaw29_awake.f
  refine LeO.bind (ledger_Add.mono _ _ _ _ _ _ _ _ _ _ _ _ _ _ _) fun c => LeO.bind (ledger_Sub.mono _ _ _ _ _ _ _ _ _ _ _ _ _ _ _) fun d => LeO.bind (ledger_Sum.mono _ _ _) fun x => LeO.bind (ledger_Sub.mono _ _ _ _ _ _ _ _ _ _ _ _ _ _ _) fun h => LeO.bind (offertoryref09_Same.mono _ _ _ _ _ _ _ _ _ _ _ _ _ _ _) fun s1 => LeO.bind (offertoryref09_Same.mono _ _ _ _ _ _ _ _ _ _ _ _ _ _ _) fun s2 => LeO.refl _
theorem sumL_at (k : Nat) (a0 : Int) (A1 : Option Addr) (c1 m : Nat) (l1 : List S27) (r1 : List Int) (r2 r3 r4 r5 r6 : Int) (r7 : Bool) (r8 : Int) (w : World) (hm : l1.length = m) (hr1 : Kd.C k27 w A1 m l1) (hc1 : m ≤ c1) (h : ledger_Sum.f k a0 l1 = some (r1, r2, r3, r4, r5, r6, r7, r8)) :
    Calls Try.prog 12 #[.int .i64 a0, .slice A1 m c1] w fun e w' => ∃ v0_ : Value, e = .returned (.tuple #[.agg #[v0_, .int .i64 r2, .int .u64 r3, .int .u64 r4, .int .u64 r5, .int .u64 r6, .bool r7], .int .i64 r8]) ∧ Kd.R (Kd.int .i64) 3 w' w.heap.size (fun _ => True) v0_ r1 ∧ Below w.heap.size w w' := by
  subst hm
  exact ledger_Sum.calls k a0 A1 c1 l1 r1 r2 r3 r4 r5 r6 r7 r8 w hr1 hc1 h
set_option maxHeartbeats 16000000 in
set_option maxRecDepth 100000 in
theorem awake_walk (k : Nat) (w : World) (la lb : List Int) (hla : la = [1, 2]) (hlb : lb = [1, 0]) (c1 : List Int) (c3 c5 c6 : Int) (d1 : List Int) (d2 d3 d4 d5 d6 : Int) (d7 : Bool) (x1 : List Int) (x2 x3 x4 x5 x6 : Int) (x7 : Bool) (h1 : List Int) (h2 h3 h4 h5 h6 : Int) (h7 : Bool)
    (ac : ledger_Add.f k la 3 0 5 0 30 false lb 1 0 9 0 81 true = some (c1, 4, c3, 4, c5, c6, true, 0)) (ad : ledger_Sub.f k c1 4 c3 4 c5 c6 true lb 1 0 9 0 81 true = some (d1, d2, d3, d4, d5, d6, d7, 0)) (ax : ledger_Sum.f k 2 [⟨la, 3, ⟨0, 5⟩, ⟨0, 30⟩, false⟩, ⟨lb, 1, ⟨0, 9⟩, ⟨0, 81⟩, true⟩] = some (x1, x2, x3, x4, x5, x6, x7, 0)) (ah : ledger_Sub.f k lb 1 0 9 0 81 true la 3 0 5 0 30 false = some (h1, h2, h3, h4, h5, h6, h7, 4))
    (s1 : offertoryref09_Same.f k d1 d2 d3 d4 d5 d6 d7 la 3 0 5 0 30 false = some true) (s2 : offertoryref09_Same.f k x1 x2 x3 x4 x5 x6 x7 c1 4 c3 4 c5 c6 true = some true) :
    Calls Try.prog 9 #[] w fun e w' => e = .returned (.bool true) ∧ Below w.heap.size w w' := by
  have hu27 := Try.underlying27
  have hu25 := Try.underlying25
  have LA := Aside0.mk hla
  have LB := Aside0.mk hlb
  have AC := Aside0.mk ac
  have AD := Aside0.mk ad
  have AX := Aside0.mk ax
  have AH := Aside0.mk ah
  have AS1 := Aside0.mk s1
  have AS2 := Aside0.mk s2
  clear hla hlb ac ad ax ah s1 s2
  go_enter Try.func9, Try.ntmps9
  go_wp2_with fail
  refine calls_genL (fun W => Below w.heap.size w W ∧ Bx W (w.heap.size + 1) (some ⟨w.heap.size, 0, none⟩) 2 [1, 2] 3 0 5 0 30 false ∧ Bx W (w.heap.size + 1 + 1 + 1) (some ⟨w.heap.size + 1 + 1, 0, none⟩) 2 [1, 0] 1 0 9 0 81 true) (start4 w) ?_
  generalize w.heap.size + 1 + 1 + 1 = g2
  generalize (some ⟨w.heap.size + 1 + 1, 0, none⟩ : Option Addr) = Ag2
  generalize w.heap.size + 1 = g1
  generalize (some ⟨w.heap.size, 0, none⟩ : Option Addr) = Ag1
  rintro w2 ⟨hb, hg1, hg2⟩
  obtain ⟨kg1, hk1, hg1⟩ : ∃ k, k = 2 ∧ Bx w2 g1 Ag1 k la 3 0 5 0 30 false := ⟨2, rfl, LA.out ▸ hg1⟩
  obtain ⟨kg2, hk2, hg2⟩ : ∃ k, k = 2 ∧ Bx w2 g2 Ag2 k lb 1 0 9 0 81 true := ⟨2, rfl, LB.out ▸ hg2⟩
  have HB2 := Aside0.mk hb
  have Xg1 := Aside0.mk hg1
  have Xg2 := Aside0.mk hg2
  clear hb hg1 hg2 hk1 hk2
  go_at_call 7
  refine (addL_at k Ag1 2 2 la 3 0 5 0 30 false Ag2 2 2 lb 1 0 9 0 81 true c1 4 c3 4 c5 c6 true 0 w2 (by rw [LA.out]; rfl) (by rw [LB.out]; rfl) (LA.out ▸ Xg1.out.hr) (Nat.le_refl 2) (LB.out ▸ Xg2.out.hr) (Nat.le_refl 2) AC.out).mono ?_
  rintro e y3 ⟨v0_, rfl, hR, hb⟩
  obtain ⟨Ag3, kg3, rfl⟩ := Kd.R_slice hR
  have HC := Aside0.mk (Kd.R_reads' hR).2
  have hN : Bx (y3.alloc (.cells #[.slice Ag3 c1.length kg3, .int .i64 4, .int .u64 c3, .int .u64 4, .int .u64 c5, .int .u64 c6, .bool true] 27)) y3.heap.size Ag3 kg3 c1 4 c3 4 c5 c6 true := ⟨blk_new y3 _, HC.out.1, Kd.C_below HC.out.2 (below_alloc (Below.refl _ _) _)⟩
  have hS := below_alloc hb (.cells #[.slice Ag3 c1.length kg3, .int .i64 4, .int .u64 c3, .int .u64 4, .int .u64 c5, .int .u64 c6, .bool true] 27)
  have Yg1 := Aside0.mk (Xg1.out.below hS)
  clear Xg1
  have Xg1 := Aside0.mk Yg1.out
  clear Yg1
  have Yg2 := Aside0.mk (Xg2.out.below hS)
  clear Xg2
  have Xg2 := Aside0.mk Yg2.out
  clear Yg2
  have HB3 := Aside0.mk (below_step HB2.out hS)
  have Xg3 := Aside0.mk hN
  clear hN hS hb hR HC HB2
  obtain ⟨cg2_0, cg2_1, cg2_2, cg2_3, cg2_4, cg2_5, cg2_6⟩ := cellsB Xg2.out.hg
  go_wp2_with fail
  clear cg2_0 cg2_1 cg2_2 cg2_3 cg2_4 cg2_5 cg2_6
  go_at_call 11
  refine (ledger_Sub.calls k Ag3 kg3 c1 4 c3 4 c5 c6 true Ag2 kg2 lb 1 0 9 0 81 true d1 d2 d3 d4 d5 d6 d7 0 _ Xg3.out.hr Xg3.out.hc Xg2.out.hr Xg2.out.hc AD.out).mono ?_
  rintro e y4 ⟨v0_, rfl, hR, hb⟩
  obtain ⟨Ag5, kg5, rfl⟩ := Kd.R_slice hR
  have HC := Aside0.mk (Kd.R_reads' hR).2
  have hN : Bx (y4.alloc (.cells #[.slice Ag5 d1.length kg5, .int .i64 d2, .int .u64 d3, .int .u64 d4, .int .u64 d5, .int .u64 d6, .bool d7] 27)) y4.heap.size Ag5 kg5 d1 d2 d3 d4 d5 d6 d7 := ⟨blk_new y4 _, HC.out.1, Kd.C_below HC.out.2 (below_alloc (Below.refl _ _) _)⟩
  have hS := below_alloc hb (.cells #[.slice Ag5 d1.length kg5, .int .i64 d2, .int .u64 d3, .int .u64 d4, .int .u64 d5, .int .u64 d6, .bool d7] 27)
  have Yg1 := Aside0.mk (Xg1.out.below hS)
  clear Xg1
  have Xg1 := Aside0.mk Yg1.out
  clear Yg1
  have Yg2 := Aside0.mk (Xg2.out.below hS)
  clear Xg2
  have Xg2 := Aside0.mk Yg2.out
  clear Yg2
  have Yg3 := Aside0.mk (Xg3.out.below hS)
  clear Xg3
  have Xg3 := Aside0.mk Yg3.out
  clear Yg3
  have HB4 := Aside0.mk (below_step HB3.out hS)
  have Xg5 := Aside0.mk hN
  clear hN hS hb hR HC HB3
  obtain ⟨cg1_0, cg1_1, cg1_2, cg1_3, cg1_4, cg1_5, cg1_6⟩ := cellsB Xg1.out.hg
  obtain ⟨cg2_0, cg2_1, cg2_2, cg2_3, cg2_4, cg2_5, cg2_6⟩ := cellsB Xg2.out.hg
  go_wp2_with fail
  clear cg1_0 cg1_1 cg1_2 cg1_3 cg1_4 cg1_5 cg1_6
  clear cg2_0 cg2_1 cg2_2 cg2_3 cg2_4 cg2_5 cg2_6
  have hB5 := below_alloc (Below.refl (y4.alloc (.cells #[.slice Ag5 d1.length kg5, .int .i64 d2, .int .u64 d3, .int .u64 d4, .int .u64 d5, .int .u64 d6, .bool d7] 27)).heap.size (y4.alloc (.cells #[.slice Ag5 d1.length kg5, .int .i64 d2, .int .u64 d3, .int .u64 d4, .int .u64 d5, .int .u64 d6, .bool d7] 27))) (.cells #[.slice Ag1 la.length kg1, .int .i64 3, .int .u64 0, .int .u64 5, .int .u64 0, .int .u64 30, .bool false, .slice Ag2 lb.length kg2, .int .i64 1, .int .u64 0, .int .u64 9, .int .u64 0, .int .u64 81, .bool true] 27)
  have Yg1 := Aside0.mk (Xg1.out.below hB5)
  clear Xg1
  have Xg1 := Aside0.mk Yg1.out
  clear Yg1
  have Yg2 := Aside0.mk (Xg2.out.below hB5)
  clear Xg2
  have Xg2 := Aside0.mk Yg2.out
  clear Yg2
  have Yg3 := Aside0.mk (Xg3.out.below hB5)
  clear Xg3
  have Xg3 := Aside0.mk Yg3.out
  clear Yg3
  have Yg5 := Aside0.mk (Xg5.out.below hB5)
  clear Xg5
  have Xg5 := Aside0.mk Yg5.out
  clear Yg5
  have H14 := Aside0.mk (new_at (y4.alloc (.cells #[.slice Ag5 d1.length kg5, .int .i64 d2, .int .u64 d3, .int .u64 d4, .int .u64 d5, .int .u64 d6, .bool d7] 27)) (.cells #[.slice Ag1 la.length kg1, .int .i64 3, .int .u64 0, .int .u64 5, .int .u64 0, .int .u64 30, .bool false, .slice Ag2 lb.length kg2, .int .i64 1, .int .u64 0, .int .u64 9, .int .u64 0, .int .u64 81, .bool true] 27) (alloc_size y4 _))
  have HB4n := Aside0.mk (below_step HB4.out hB5)
  clear HB4 hB5
  have HB4 := Aside0.mk HB4n.out
  clear HB4n
  go_at_call 12
  refine (sumL_at k 2 (some ⟨y4.heap.size + 1, 0, none⟩) 2 2 [⟨la, 3, ⟨0, 5⟩, ⟨0, 30⟩, false⟩, ⟨lb, 1, ⟨0, 9⟩, ⟨0, 81⟩, true⟩] x1 x2 x3 x4 x5 x6 x7 0 _ rfl (two27 H14.out (k27_mk _ ⟨la, 3, ⟨0, 5⟩, ⟨0, 30⟩, false⟩ Xg1.out.hc Xg1.out.hr) (k27_mk _ ⟨lb, 1, ⟨0, 9⟩, ⟨0, 81⟩, true⟩ Xg2.out.hc Xg2.out.hr)) (Nat.le_refl _) AX.out).mono ?_
  rintro e y5 ⟨v0_, rfl, hR, hb⟩
  obtain ⟨Ag7, kg7, rfl⟩ := Kd.R_slice hR
  have HC := Aside0.mk (Kd.R_reads' hR).2
  have hN : Bx (y5.alloc (.cells #[.slice Ag7 x1.length kg7, .int .i64 x2, .int .u64 x3, .int .u64 x4, .int .u64 x5, .int .u64 x6, .bool x7] 27)) y5.heap.size Ag7 kg7 x1 x2 x3 x4 x5 x6 x7 := ⟨blk_new y5 _, HC.out.1, Kd.C_below HC.out.2 (below_alloc (Below.refl _ _) _)⟩
  have hS := below_alloc hb (.cells #[.slice Ag7 x1.length kg7, .int .i64 x2, .int .u64 x3, .int .u64 x4, .int .u64 x5, .int .u64 x6, .bool x7] 27)
  have Yg1 := Aside0.mk (Xg1.out.below hS)
  clear Xg1
  have Xg1 := Aside0.mk Yg1.out
  clear Yg1
  have Yg2 := Aside0.mk (Xg2.out.below hS)
  clear Xg2
  have Xg2 := Aside0.mk Yg2.out
  clear Yg2
  have Yg3 := Aside0.mk (Xg3.out.below hS)
  clear Xg3
  have Xg3 := Aside0.mk Yg3.out
  clear Yg3
  have Yg5 := Aside0.mk (Xg5.out.below hS)
  clear Xg5
  have Xg5 := Aside0.mk Yg5.out
  clear Yg5
  have HB5 := Aside0.mk (below_step HB4.out hS)
  have Xg7 := Aside0.mk hN
  clear hN hS hb hR HC HB4
  obtain ⟨cg1_0, cg1_1, cg1_2, cg1_3, cg1_4, cg1_5, cg1_6⟩ := cellsB Xg1.out.hg
  obtain ⟨cg2_0, cg2_1, cg2_2, cg2_3, cg2_4, cg2_5, cg2_6⟩ := cellsB Xg2.out.hg
  go_wp2_with fail
  clear cg1_0 cg1_1 cg1_2 cg1_3 cg1_4 cg1_5 cg1_6
  clear cg2_0 cg2_1 cg2_2 cg2_3 cg2_4 cg2_5 cg2_6
  go_at_call 11
  refine (ledger_Sub.calls k Ag2 kg2 lb 1 0 9 0 81 true Ag1 kg1 la 3 0 5 0 30 false h1 h2 h3 h4 h5 h6 h7 4 _ Xg2.out.hr Xg2.out.hc Xg1.out.hr Xg1.out.hc AH.out).mono ?_
  rintro e y6 ⟨v0_, rfl, hR, hb⟩
  obtain ⟨Ag9, kg9, rfl⟩ := Kd.R_slice hR
  have HC := Aside0.mk (Kd.R_reads' hR).2
  have hN : Bx (y6.alloc (.cells #[.slice Ag9 h1.length kg9, .int .i64 h2, .int .u64 h3, .int .u64 h4, .int .u64 h5, .int .u64 h6, .bool h7] 27)) y6.heap.size Ag9 kg9 h1 h2 h3 h4 h5 h6 h7 := ⟨blk_new y6 _, HC.out.1, Kd.C_below HC.out.2 (below_alloc (Below.refl _ _) _)⟩
  have hS := below_alloc hb (.cells #[.slice Ag9 h1.length kg9, .int .i64 h2, .int .u64 h3, .int .u64 h4, .int .u64 h5, .int .u64 h6, .bool h7] 27)
  have Yg1 := Aside0.mk (Xg1.out.below hS)
  clear Xg1
  have Xg1 := Aside0.mk Yg1.out
  clear Yg1
  have Yg2 := Aside0.mk (Xg2.out.below hS)
  clear Xg2
  have Xg2 := Aside0.mk Yg2.out
  clear Yg2
  have Yg3 := Aside0.mk (Xg3.out.below hS)
  clear Xg3
  have Xg3 := Aside0.mk Yg3.out
  clear Yg3
  have Yg5 := Aside0.mk (Xg5.out.below hS)
  clear Xg5
  have Xg5 := Aside0.mk Yg5.out
  clear Yg5
  have Yg7 := Aside0.mk (Xg7.out.below hS)
  clear Xg7
  have Xg7 := Aside0.mk Yg7.out
  clear Yg7
  have HB6 := Aside0.mk (below_step HB5.out hS)
  have Xg9 := Aside0.mk hN
  clear hN hS hb hR HC HB5
  obtain ⟨cg1_0, cg1_1, cg1_2, cg1_3, cg1_4, cg1_5, cg1_6⟩ := cellsB Xg1.out.hg
  obtain ⟨cg3_0, cg3_1, cg3_2, cg3_3, cg3_4, cg3_5, cg3_6⟩ := cellsB Xg3.out.hg
  obtain ⟨cg5_0, cg5_1, cg5_2, cg5_3, cg5_4, cg5_5, cg5_6⟩ := cellsB Xg5.out.hg
  obtain ⟨cg7_0, cg7_1, cg7_2, cg7_3, cg7_4, cg7_5, cg7_6⟩ := cellsB Xg7.out.hg
  go_wp2_with fail
  clear cg1_0 cg1_1 cg1_2 cg1_3 cg1_4 cg1_5 cg1_6
  clear cg3_0 cg3_1 cg3_2 cg3_3 cg3_4 cg3_5 cg3_6
  clear cg5_0 cg5_1 cg5_2 cg5_3 cg5_4 cg5_5 cg5_6
  clear cg7_0 cg7_1 cg7_2 cg7_3 cg7_4 cg7_5 cg7_6
  go_at_call 10
  refine (offertoryref09_Same.calls k Ag5 kg5 d1 d2 d3 d4 d5 d6 d7 Ag1 kg1 la 3 0 5 0 30 false true _ Xg5.out.hr Xg5.out.hc Xg1.out.hr Xg1.out.hc AS1.out).mono ?_
  rintro e z1 ⟨rfl, hb⟩
  have Y3 := Aside0.mk (Xg3.out.below hb)
  have Y7 := Aside0.mk (Xg7.out.below hb)
  have HZ := Aside0.mk (below_step HB6.out hb)
  clear hb
  obtain ⟨c3_0, c3_1, c3_2, c3_3, c3_4, c3_5, c3_6⟩ := cellsB Y3.out.hg
  obtain ⟨c7_0, c7_1, c7_2, c7_3, c7_4, c7_5, c7_6⟩ := cellsB Y7.out.hg
  go_wp2_with fail
  go_at_call 10
  refine (offertoryref09_Same.calls k Ag7 kg7 x1 x2 x3 x4 x5 x6 x7 Ag3 kg3 c1 4 c3 4 c5 c6 true true _ Y7.out.hr Y7.out.hc Y3.out.hr Y3.out.hc AS2.out).mono ?_
  rintro e z2 ⟨rfl, hb⟩
  have HZ2 := Aside0.mk (below_step HZ.out hb)
  clear hb
  go_wp2
  go_ret
  exact ⟨by first | rfl | (simp; done), HZ2.out⟩
theorem offertorylaw29_awake.calls (k : Nat) (r : Bool) (w : World) (h : offertorylaw29_awake.f k = some r) :
    Calls Try.prog 9 #[] w fun e w' => e = .returned (.bool r) ∧ Below w.heap.size w w' := by
  unfold offertorylaw29_awake.f awSum at h
  obtain ⟨⟨c1, c2, c3, c4, c5, c6, c7, ce⟩, AC, h⟩ := Option.bind_eq_some_iff.mp h
  obtain ⟨⟨d1, d2, d3, d4, d5, d6, d7, de⟩, AD, h⟩ := Option.bind_eq_some_iff.mp h
  obtain ⟨⟨x1, x2, x3, x4, x5, x6, x7, xe⟩, AX, h⟩ := Option.bind_eq_some_iff.mp h
  obtain ⟨⟨h1, h2, h3, h4, h5, h6, h7, he⟩, AH, h⟩ := Option.bind_eq_some_iff.mp h
  obtain ⟨q1, AS1, h⟩ := Option.bind_eq_some_iff.mp h
  obtain ⟨q2, AS2, h⟩ := Option.bind_eq_some_iff.mp h
  split at h
  case isFalse => cases h
  rename_i hc
  obtain rfl := Option.some.inj h
  obtain ⟨⟨rfl, rfl, rfl, rfl⟩, ⟨rfl, rfl, rfl⟩, rfl, rfl⟩ := hc
  exact awake_walk k w _ _ rfl rfl _ _ _ _ _ _ _ _ _ _ _ _ _ _ _ _ _ _ _ _ _ _ _ _ _ AC AD AX AH AS1 AS2

end Go.Proofs.Yticihbccflflfaa.PAll
