/- The Go functions that the laws reach, as Lean functions, and that each call comes to what its function says. Written by a program of this session (a turned copy of the kit's print). No condition beyond those that each theorem states. -/
import Derived.Test.YtdpekjffjobabaaPAllx0
import Derived.Test.YtdpekjffjobabaaPAllx2
import Derived.Test.YtdpekjffjobabaaPAllx7
import Derived.Test.YtdpekjffjobabaaPAllx8
import Derived.Test.YtdpekjffjobabaaPAllx9
import Derived.Test.YtdpekjffjobabaaPAllx12
namespace Go.Proofs.Ytdpekjffjobabaa.PAll
open Go.RowKit Go.Proofs.YtdpekjffjobabaaW.PrintWords Go.Proofs.YtdpekjffjobabaaW.PrintLast Go.Proofs.YtdpekjffjobabaaW.PrintMore
attribute [local go_sem] max2_int min2_int max_two min_two max_three min_three max_four min_four   -- for this text's walks alone
set_option linter.unusedVariables false
set_option linter.unusedSimpArgs false

theorem offertorylaw13_StatsDecodes.keepB {W0 W w1 : World} {g : Nat} {o : Obj} (h : Aside0 (W0.heap[g]? = some o)) (hb : Below W.heap.size W w1) (hs : W0.heap[g]? = some o → W.heap[g]? = some o := by intro h_; (with_reducible repeat (first | refine blk_drewN ?_ _ | refine blk_drew ?_ | refine blk_alloc ?_ _)); exact h_) : Aside0 (w1.heap[g]? = some o) := ⟨(hb.block g (blk_lt (hs h.out))).trans (hs h.out)⟩
theorem offertorylaw13_StatsDecodes.neL {W0 W : World} {g gb : Nat} {o : Obj} (h : Aside0 (W0.heap[g]? = some o)) (hg : gb = W.heap.size) (hs : W0.heap[g]? = some o → W.heap[g]? = some o := by intro h_; (with_reducible repeat (first | refine blk_drewN ?_ _ | refine blk_drew ?_ | refine blk_alloc ?_ _)); exact h_) : Aside0 (g ≠ gb) := ⟨by rw [hg]; exact Nat.ne_of_lt (blk_lt (hs h.out))⟩
theorem offertorylaw13_StatsDecodes.neG {W0 W : World} {g gb : Nat} {o : Obj} (h : Aside0 (W0.heap[g]? = some o)) (hg : gb = W.heap.size) (hs : W0.heap[g]? = some o → W.heap[g]? = some o := by intro h_; (with_reducible repeat (first | refine blk_drewN ?_ _ | refine blk_drew ?_ | refine blk_alloc ?_ _)); exact h_) : Aside0 (gb ≠ g) := ⟨by rw [hg]; exact Nat.ne_of_gt (blk_lt (hs h.out))⟩
/-! ### offertorylaw13_StatsDecodes: function 4 -/
mutual
def offertorylaw13_StatsDecodes.j0 : Nat → List Int → Int → Int → Bool → Int → Int → Int → List Int → List Int → Int → Int → Int → Int → Int → Bool → Option (Bool)
  | 0, _, _, _, _, _, _, _, _, _, _, _, _, _, _, _ => none
  | k + 1, x1, x6, x7, x26, x248000, x248001, x248002, x248003, x259000, x259001, x259002, x259003, x259004, x259005, x259006 => if x26 = true then (offertorylaw13_StatsDecodes.j1 k x1 x6 1 x248000 x248001 x248002 x248003 x259000 x259001 x259002 x259003 x259004 x259005 x259006) else (offertorylaw13_StatsDecodes.j1 k x1 x6 x7 x248000 x248001 x248002 x248003 x259000 x259001 x259002 x259003 x259004 x259005 x259006)
def offertorylaw13_StatsDecodes.j1 : Nat → List Int → Int → Int → Int → Int → Int → List Int → List Int → Int → Int → Int → Int → Int → Bool → Option (Bool)
  | 0, _, _, _, _, _, _, _, _, _, _, _, _, _, _ => none
  | k + 1, x1, x6, x7, x248000, x248001, x248002, x248003, x259000, x259001, x259002, x259003, x259004, x259005, x259006 => if x7 = 0 then ((offertoryref09_Decode.f k x248000 x248001 x248002 x248003 x1).bind fun bt261 => ((offertorylaw13_awake.f k).bind fun t272 => (if t272 = true then (if x6 = bt261.2.2.2.2.2.2.2 then ((offertoryref09_Same.f k x259000 x259001 x259002 x259003 x259004 x259005 x259006 bt261.1 bt261.2.1 bt261.2.2.1 bt261.2.2.2.1 bt261.2.2.2.2.1 bt261.2.2.2.2.2.1 bt261.2.2.2.2.2.2.1).bind fun t273 => (some t273)) else (none)) else (none)))) else ((offertorylaw13_awake.f k).bind fun t274 => (if t274 = true then (if x6 = x7 then ((offertoryref09_Same.f k x259000 x259001 x259002 x259003 x259004 x259005 x259006 ([] : List Int) 0 0 0 0 0 false).bind fun t275 => (some t275)) else (none)) else (none)))
end
def offertorylaw13_StatsDecodes.f (k : Nat) (a0_0 : Int) (a0_1 : Int) (a0_2 : Int) (l0_3 : List Int) (l1 : List Int) : Option (Bool) := (stats_Decode.f k a0_0 a0_1 a0_2 l0_3 l1).bind fun bt248 => ((offertoryref09_Sound.f k a0_0 a0_1 a0_2 l0_3).bind fun t259 => (if t259 = 0 then ((offertoryref09_Len.f k a0_0 a0_1 a0_2 l0_3).bind fun t260 => (offertorylaw13_StatsDecodes.j0 k l1 bt248.2.2.2.2.2.2.2 t259 ((l1.length : Int) != t260) a0_0 a0_1 a0_2 l0_3 bt248.1 bt248.2.1 bt248.2.2.1 bt248.2.2.2.1 bt248.2.2.2.2.1 bt248.2.2.2.2.2.1 bt248.2.2.2.2.2.2.1)) else (offertorylaw13_StatsDecodes.j0 k l1 bt248.2.2.2.2.2.2.2 t259 false a0_0 a0_1 a0_2 l0_3 bt248.1 bt248.2.1 bt248.2.2.1 bt248.2.2.2.1 bt248.2.2.2.2.1 bt248.2.2.2.2.2.1 bt248.2.2.2.2.2.2.1)))
theorem offertorylaw13_StatsDecodes.mono_l : ∀ k, (∀ y0 y1 y2 y3 y4 y5 y6 y7 y8 y9 y10 y11 y12 y13 y14, LeO (offertorylaw13_StatsDecodes.j0 k y0 y1 y2 y3 y4 y5 y6 y7 y8 y9 y10 y11 y12 y13 y14) (offertorylaw13_StatsDecodes.j0 (k + 1) y0 y1 y2 y3 y4 y5 y6 y7 y8 y9 y10 y11 y12 y13 y14)) ∧ (∀ y0 y1 y2 y3 y4 y5 y6 y7 y8 y9 y10 y11 y12 y13, LeO (offertorylaw13_StatsDecodes.j1 k y0 y1 y2 y3 y4 y5 y6 y7 y8 y9 y10 y11 y12 y13) (offertorylaw13_StatsDecodes.j1 (k + 1) y0 y1 y2 y3 y4 y5 y6 y7 y8 y9 y10 y11 y12 y13))
  | 0 => ⟨fun _ _ _ _ _ _ _ _ _ _ _ _ _ _ _ r h => by simp [offertorylaw13_StatsDecodes.j0] at h, fun _ _ _ _ _ _ _ _ _ _ _ _ _ _ r h => by simp [offertorylaw13_StatsDecodes.j1] at h⟩
  | k + 1 => by
    obtain ⟨ih0, ih1⟩ := offertorylaw13_StatsDecodes.mono_l k
    refine ⟨?_, ?_⟩
    · intro y0 y1 y2 y3 y4 y5 y6 y7 y8 y9 y10 y11 y12 y13 y14
      unfold offertorylaw13_StatsDecodes.j0
      repeat' first
      | (with_reducible exact ih0 _ _ _ _ _ _ _ _ _ _ _ _ _ _ _)
      | (with_reducible exact ih1 _ _ _ _ _ _ _ _ _ _ _ _ _ _)
      | (with_reducible exact offertorylaw13_awake.mono _)
      | (with_reducible exact offertoryref09_Decode.mono _ _ _ _ _ _)
      | (with_reducible exact offertoryref09_Len.mono _ _ _ _ _)
      | (with_reducible exact offertoryref09_Same.mono _ _ _ _ _ _ _ _ _ _ _ _ _ _ _)
      | (with_reducible exact offertoryref09_Sound.mono _ _ _ _ _)
      | (with_reducible exact stats_Decode.mono _ _ _ _ _ _)
      | (with_reducible exact LeO.refl _)
      | (with_reducible exact LeO.none _)
      | (with_reducible refine LeO.ite ?_ ?_)
      | (with_reducible refine LeO.bind ?_ (fun _ => ?_))
      | exact ih0 _ _ _ _ _ _ _ _ _ _ _ _ _ _ _
      | exact ih1 _ _ _ _ _ _ _ _ _ _ _ _ _ _
      | exact offertorylaw13_awake.mono _
      | exact offertoryref09_Decode.mono _ _ _ _ _ _
      | exact offertoryref09_Len.mono _ _ _ _ _
      | exact offertoryref09_Same.mono _ _ _ _ _ _ _ _ _ _ _ _ _ _ _
      | exact offertoryref09_Sound.mono _ _ _ _ _
      | exact stats_Decode.mono _ _ _ _ _ _
      | exact LeO.none _
      | refine LeO.ite ?_ ?_
      | refine LeO.bind ?_ (fun _ => ?_)
    · intro y0 y1 y2 y3 y4 y5 y6 y7 y8 y9 y10 y11 y12 y13
      unfold offertorylaw13_StatsDecodes.j1
      repeat' first
      | (with_reducible exact ih0 _ _ _ _ _ _ _ _ _ _ _ _ _ _ _)
      | (with_reducible exact ih1 _ _ _ _ _ _ _ _ _ _ _ _ _ _)
      | (with_reducible exact offertorylaw13_awake.mono _)
      | (with_reducible exact offertoryref09_Decode.mono _ _ _ _ _ _)
      | (with_reducible exact offertoryref09_Len.mono _ _ _ _ _)
      | (with_reducible exact offertoryref09_Same.mono _ _ _ _ _ _ _ _ _ _ _ _ _ _ _)
      | (with_reducible exact offertoryref09_Sound.mono _ _ _ _ _)
      | (with_reducible exact stats_Decode.mono _ _ _ _ _ _)
      | (with_reducible exact LeO.refl _)
      | (with_reducible exact LeO.none _)
      | (with_reducible refine LeO.ite ?_ ?_)
      | (with_reducible refine LeO.bind ?_ (fun _ => ?_))
      | exact ih0 _ _ _ _ _ _ _ _ _ _ _ _ _ _ _
      | exact ih1 _ _ _ _ _ _ _ _ _ _ _ _ _ _
      | exact offertorylaw13_awake.mono _
      | exact offertoryref09_Decode.mono _ _ _ _ _ _
      | exact offertoryref09_Len.mono _ _ _ _ _
      | exact offertoryref09_Same.mono _ _ _ _ _ _ _ _ _ _ _ _ _ _ _
      | exact offertoryref09_Sound.mono _ _ _ _ _
      | exact stats_Decode.mono _ _ _ _ _ _
      | exact LeO.none _
      | refine LeO.ite ?_ ?_
      | refine LeO.bind ?_ (fun _ => ?_)
theorem offertorylaw13_StatsDecodes.mono : ∀ a0 a1 a2 a3 a4 k, LeO (offertorylaw13_StatsDecodes.f k a0 a1 a2 a3 a4) (offertorylaw13_StatsDecodes.f (k + 1) a0 a1 a2 a3 a4) := by
  intro a0 a1 a2 a3 a4 k
  obtain ⟨ih0, ih1⟩ := offertorylaw13_StatsDecodes.mono_l k
  unfold offertorylaw13_StatsDecodes.f
  repeat' first
      | (with_reducible exact ih0 _ _ _ _ _ _ _ _ _ _ _ _ _ _ _)
      | (with_reducible exact ih1 _ _ _ _ _ _ _ _ _ _ _ _ _ _)
      | (with_reducible exact offertorylaw13_awake.mono _)
      | (with_reducible exact offertoryref09_Decode.mono _ _ _ _ _ _)
      | (with_reducible exact offertoryref09_Len.mono _ _ _ _ _)
      | (with_reducible exact offertoryref09_Same.mono _ _ _ _ _ _ _ _ _ _ _ _ _ _ _)
      | (with_reducible exact offertoryref09_Sound.mono _ _ _ _ _)
      | (with_reducible exact stats_Decode.mono _ _ _ _ _ _)
      | (with_reducible exact LeO.refl _)
      | (with_reducible exact LeO.none _)
      | (with_reducible refine LeO.ite ?_ ?_)
      | (with_reducible refine LeO.bind ?_ (fun _ => ?_))
      | exact ih0 _ _ _ _ _ _ _ _ _ _ _ _ _ _ _
      | exact ih1 _ _ _ _ _ _ _ _ _ _ _ _ _ _
      | exact offertorylaw13_awake.mono _
      | exact offertoryref09_Decode.mono _ _ _ _ _ _
      | exact offertoryref09_Len.mono _ _ _ _ _
      | exact offertoryref09_Same.mono _ _ _ _ _ _ _ _ _ _ _ _ _ _ _
      | exact offertoryref09_Sound.mono _ _ _ _ _
      | exact stats_Decode.mono _ _ _ _ _ _
      | exact LeO.none _
      | refine LeO.ite ?_ ?_
      | refine LeO.bind ?_ (fun _ => ?_)
set_option maxHeartbeats 8000000 in
set_option maxRecDepth 100000 in
theorem offertorylaw13_StatsDecodes.calls (k : Nat) (a0_0 : Int) (a0_1 : Int) (a0_2 : Int) (A0_3 : Option Addr) (c0_3 : Nat) (l0_3 : List Int) (A1 : Option Addr) (c1 : Nat) (l1 : List Int) (r : Bool) (w : World) (hr0_3 : Kd.C (Kd.int .i64) w A0_3 l0_3.length l0_3) (hc0_3 : l0_3.length ≤ c0_3) (hr1 : Kd.C (Kd.int .u32) w A1 l1.length l1) (hc1 : l1.length ≤ c1) (h : offertorylaw13_StatsDecodes.f k a0_0 a0_1 a0_2 l0_3 l1 = some r) :
    Calls Try.prog 4 #[.agg #[.int .i64 a0_0, .int .i64 a0_1, .int .i64 a0_2, .slice A0_3 l0_3.length c0_3], .slice A1 l1.length c1] w fun e w' => e = .returned (.bool r) ∧ Below w.heap.size w w' := by
  have hu24 := Try.underlying24
  have hu29 := Try.underlying29
  have HR0_3 := Aside0.mk hr0_3
  have HC0_3 := Aside0.mk hc0_3
  clear hr0_3 hc0_3
  have HR1 := Aside0.mk hr1
  have HC1 := Aside0.mk hc1
  clear hr1 hc1
  have HB := Aside0.mk (Below.refl w.heap.size w)
  have H : ((stats_Decode.f k a0_0 a0_1 a0_2 l0_3 l1).bind fun bt248 => ((offertoryref09_Sound.f k a0_0 a0_1 a0_2 l0_3).bind fun t259 => (if t259 = 0 then ((offertoryref09_Len.f k a0_0 a0_1 a0_2 l0_3).bind fun t260 => (offertorylaw13_StatsDecodes.j0 k l1 bt248.2.2.2.2.2.2.2 t259 ((l1.length : Int) != t260) a0_0 a0_1 a0_2 l0_3 bt248.1 bt248.2.1 bt248.2.2.1 bt248.2.2.2.1 bt248.2.2.2.2.1 bt248.2.2.2.2.2.1 bt248.2.2.2.2.2.2.1)) else (offertorylaw13_StatsDecodes.j0 k l1 bt248.2.2.2.2.2.2.2 t259 false a0_0 a0_1 a0_2 l0_3 bt248.1 bt248.2.1 bt248.2.2.1 bt248.2.2.2.1 bt248.2.2.2.2.1 bt248.2.2.2.2.2.1 bt248.2.2.2.2.2.2.1)))) = some r := h
  clear h
  replace H := Option.bind_eq_some_iff.mp H
  obtain ⟨⟨t248, t251, t252, t253, t254, t255, t256, t257⟩, A30, H⟩ := H
  replace H : ((offertoryref09_Sound.f k a0_0 a0_1 a0_2 l0_3).bind fun t259 => (if t259 = 0 then ((offertoryref09_Len.f k a0_0 a0_1 a0_2 l0_3).bind fun t260 => (offertorylaw13_StatsDecodes.j0 k l1 t257 t259 ((l1.length : Int) != t260) a0_0 a0_1 a0_2 l0_3 t248 t251 t252 t253 t254 t255 t256)) else (offertorylaw13_StatsDecodes.j0 k l1 t257 t259 false a0_0 a0_1 a0_2 l0_3 t248 t251 t252 t253 t254 t255 t256))) = some r := H
  have A3 := Aside0.mk A30
  clear A30
  replace H := Option.bind_eq_some_iff.mp H
  obtain ⟨t259, A40, H⟩ := H
  replace H : (if t259 = 0 then ((offertoryref09_Len.f k a0_0 a0_1 a0_2 l0_3).bind fun t260 => (offertorylaw13_StatsDecodes.j0 k l1 t257 t259 ((l1.length : Int) != t260) a0_0 a0_1 a0_2 l0_3 t248 t251 t252 t253 t254 t255 t256)) else (offertorylaw13_StatsDecodes.j0 k l1 t257 t259 false a0_0 a0_1 a0_2 l0_3 t248 t251 t252 t253 t254 t255 t256)) = some r := H
  have A4 := Aside0.mk A40
  clear A40
  have HC5 := Aside0.mk H
  clear H
  go_enter Try.func4, Try.ntmps4
  go_upto_region 3 with (first | ((with_reducible refine gate_dst (N := 2) rfl ?_); (try (refine gate_guard (by rfl) ?_; dsimp only)); refine box_event ?hg (N := 2) ?hd (cs := #[.int .i64 a0_0, .int .i64 a0_1, .int .i64 a0_2, .slice A0_3 l0_3.length c0_3]) (t := 24) ?hr ?_; (case hd => rfl); (case hg => rfl); (case hr => first | (go_simp; done) | (go_simp; rfl)); intro gb247 hg w6 hbox hb; have n0_ := Aside0.mk (below_step (by repeat (first | (with_reducible first | exact HB.out | apply below_alloc | apply pw_below_drewN | apply below_drew1) | exact HB.out)) hb); have n1_ := Aside0.mk (hbox); have n2_ := Aside0.mk ((by rw [hg]; exact (below_size (by repeat (first | (with_reducible first | exact HB.out | apply below_alloc | apply pw_below_drewN | apply below_drew1) | exact HB.out))) : w.heap.size ≤ gb247)); have n3_ := Aside0.mk ((by rw [hg]; exact (below_size (by repeat (first | (with_reducible first | exact HB.out | apply below_alloc | apply pw_below_drewN | apply below_drew1) | exact HB.out))) : w.heap.size ≤ gb247)); clear HB; have HB := n0_; have BK247 := n1_; have GW247 := n2_; have GE247 := n3_; clear n0_ n1_ n2_ n3_; clear hb hbox hg; have hcz7_0 : w6.cell? ⟨gb247, 0, none⟩ = some (.int .i64 a0_0) := (blk_cell BK247.out 0).trans rfl; have hcz7_1 : w6.cell? ⟨gb247, 1, none⟩ = some (.int .i64 a0_1) := (blk_cell BK247.out 1).trans rfl; have hcz7_2 : w6.cell? ⟨gb247, 2, none⟩ = some (.int .i64 a0_2) := (blk_cell BK247.out 2).trans rfl; have hcz7_3 : w6.cell? ⟨gb247, 3, none⟩ = some (.slice A0_3 l0_3.length c0_3) := (blk_cell BK247.out 3).trans rfl; have hfz7_0 := blk_frozen BK247.out 0; have hfz7_1 := blk_frozen BK247.out 1; have hfz7_2 := blk_frozen BK247.out 2; have hfz7_3 := blk_frozen BK247.out 3) | ((with_reducible refine gate_callee (f := 13) rfl ?_); refine goesL_ (some 13) rfl rfl Try.func13 (by kernel_rfl) rfl #[.agg #[.int .i64 a0_0, .int .i64 a0_1, .int .i64 a0_2, .slice A0_3 l0_3.length c0_3], .slice A1 l1.length c1] rfl (by (try simp only [List.map_toArray, List.map_cons, List.map_nil]); first | done | rfl | (simp only [List.length_drop, List.length_take]; rfl)) ?_; (with_reducible refine (stats_Decode.calls k a0_0 a0_1 a0_2 _ _ l0_3 _ _ l1 t248 t251 t252 t253 t254 t255 t256 t257 _ ?side1 ?side2 ?side3 ?side4 A3.out).mono ?_); (case side1 => repeat (first | exact (Kd.C_below HR0_3.out HB.out) | (with_reducible refine Kd.C_alloc ?_ _) | (with_reducible refine Kd.C_drewN ?_ _) | (with_reducible refine Kd.C_drew ?_))); (case side2 => exact HC0_3.out); (case side3 => repeat (first | exact (Kd.C_below HR1.out HB.out) | (with_reducible refine Kd.C_alloc ?_ _) | (with_reducible refine Kd.C_drewN ?_ _) | (with_reducible refine Kd.C_drew ?_))); (case side4 => exact HC1.out); rintro e w8 ⟨v249, rfl, ho0, hb⟩; refine ⟨_, rfl, ?_⟩; have n0_ := Aside0.mk (Kd.R_lower ho0 (below_size (by repeat (first | (with_reducible first | exact HB.out | apply below_alloc | apply pw_below_drewN | apply below_drew1 | refine below_set ?_ GE247.out) | exact HB.out)))); have n1_ := offertorylaw13_StatsDecodes.keepB BK247 hb; have n2_ := Aside0.mk (below_step (by repeat (first | (with_reducible first | exact HB.out | apply below_alloc | apply pw_below_drewN | apply below_drew1 | refine below_set ?_ GE247.out) | exact HB.out)) hb); clear BK247; clear HB; have HO250 := n0_; have BK247 := n1_; have HB := n2_; clear n0_ n1_ n2_; (try clear hb); (try clear hb2); (try clear hk); (try clear hi); (try clear ho0)) | ((with_reducible refine gate_dst (N := 5) rfl ?_); (try (refine gate_guard (by rfl) ?_; dsimp only)); refine box_event ?hg (N := 5) ?hd (cs := #[.slice none 0 0, .int .i64 0, .int .u64 0, .int .u64 0, .int .u64 0, .int .u64 0, .bool false]) (t := 29) ?hr ?_; (case hd => rfl); (case hg => rfl); (case hr => first | (go_simp; done) | (go_simp; rfl)); intro gb258 hg w9 hbox hb; have n0_ := Aside0.mk (Kd.R_below (by (with_reducible repeat (first | apply Kd.R_alloc | apply Kd.R_drewN | apply Kd.R_drew)); exact HO250.out) hb); have n1_ := offertorylaw13_StatsDecodes.keepB BK247 hb; have n2_ := Aside0.mk (below_step (by repeat (first | (with_reducible first | exact HB.out | apply below_alloc | apply pw_below_drewN | apply below_drew1 | refine below_set ?_ GE247.out) | exact HB.out)) hb); have n3_ := Aside0.mk (hbox); have n4_ := Aside0.mk ((by rw [hg]; exact (below_size (by repeat (first | (with_reducible first | exact HB.out | apply below_alloc | apply pw_below_drewN | apply below_drew1 | refine below_set ?_ GE247.out) | exact HB.out))) : w.heap.size ≤ gb258)); have n5_ := Aside0.mk ((by rw [hg]; exact (below_size (by repeat (first | (with_reducible first | exact HB.out | apply below_alloc | apply pw_below_drewN | apply below_drew1 | refine below_set ?_ GE247.out) | exact HB.out))) : w.heap.size ≤ gb258)); have n6_ := offertorylaw13_StatsDecodes.neL BK247 hg; have n7_ := offertorylaw13_StatsDecodes.neG BK247 hg; clear HO250; clear BK247; clear HB; have HO250 := n0_; have BK247 := n1_; have HB := n2_; have BK258 := n3_; have GW258 := n4_; have GE258 := n5_; have NB247_258 := n6_; have NB258_247 := n7_; clear n0_ n1_ n2_ n3_ n4_ n5_ n6_ n7_; clear hb hbox hg; obtain ⟨Ao10, co10, eo10⟩ := Kd.R_slice HO250.out; subst eo10; have hnb11 := NB258_247.out; have hnc11 := NB247_258.out; have hcz12_0 : w9.cell? ⟨gb258, 0, none⟩ = some (.slice none 0 0) := (blk_cell BK258.out 0).trans rfl; have hcz12_1 : w9.cell? ⟨gb258, 1, none⟩ = some (.int .i64 0) := (blk_cell BK258.out 1).trans rfl; have hcz12_2 : w9.cell? ⟨gb258, 2, none⟩ = some (.int .u64 0) := (blk_cell BK258.out 2).trans rfl; have hcz12_3 : w9.cell? ⟨gb258, 3, none⟩ = some (.int .u64 0) := (blk_cell BK258.out 3).trans rfl; have hcz12_4 : w9.cell? ⟨gb258, 4, none⟩ = some (.int .u64 0) := (blk_cell BK258.out 4).trans rfl; have hcz12_5 : w9.cell? ⟨gb258, 5, none⟩ = some (.int .u64 0) := (blk_cell BK258.out 5).trans rfl; have hcz12_6 : w9.cell? ⟨gb258, 6, none⟩ = some (.bool false) := (blk_cell BK258.out 6).trans rfl; have hfz12_0 := blk_frozen BK258.out 0; have hfz12_1 := blk_frozen BK258.out 1; have hfz12_2 := blk_frozen BK258.out 2; have hfz12_3 := blk_frozen BK258.out 3; have hfz12_4 := blk_frozen BK258.out 4; have hfz12_5 := blk_frozen BK258.out 5; have hfz12_6 := blk_frozen BK258.out 6; have hcz13_0 : w9.cell? ⟨gb247, 0, none⟩ = some (.int .i64 a0_0) := (blk_cell BK247.out 0).trans rfl; have hcz13_1 : w9.cell? ⟨gb247, 1, none⟩ = some (.int .i64 a0_1) := (blk_cell BK247.out 1).trans rfl; have hcz13_2 : w9.cell? ⟨gb247, 2, none⟩ = some (.int .i64 a0_2) := (blk_cell BK247.out 2).trans rfl; have hcz13_3 : w9.cell? ⟨gb247, 3, none⟩ = some (.slice A0_3 l0_3.length c0_3) := (blk_cell BK247.out 3).trans rfl; have hfz13_0 := blk_frozen BK247.out 0; have hfz13_1 := blk_frozen BK247.out 1; have hfz13_2 := blk_frozen BK247.out 2; have hfz13_3 := blk_frozen BK247.out 3) | ((with_reducible refine gate_callee (f := 9) rfl ?_); refine goesL_ (some 17) rfl rfl Try.func9 (by kernel_rfl) rfl #[.agg #[.int .i64 a0_0, .int .i64 a0_1, .int .i64 a0_2, .slice A0_3 l0_3.length c0_3]] rfl (by (try simp only [List.map_toArray, List.map_cons, List.map_nil]); first | done | rfl | (simp only [List.length_drop, List.length_take]; rfl)) ?_; (with_reducible refine (offertoryref09_Sound.calls k a0_0 a0_1 a0_2 _ _ l0_3 t259 _ ?side1 ?side2 A4.out).mono ?_); (case side1 => exact Kd.C_below HR0_3.out (by repeat (first | (with_reducible first | exact HB.out | apply below_alloc | apply pw_below_drewN | apply below_drew1 | refine below_set ?_ GE247.out | refine below_set ?_ GE258.out) | exact HB.out))); (case side2 => exact HC0_3.out); rintro e w14 ⟨rfl, hb⟩; refine ⟨_, rfl, ?_⟩; have n0_ := Aside0.mk (Kd.R_below (by (with_reducible repeat (first | apply Kd.R_alloc | apply Kd.R_drewN | apply Kd.R_drew)); exact (Kd.R_mono (Kd.R_far (p := ⟨gb258, 6, none⟩) (Kd.R_far (p := ⟨gb258, 5, none⟩) (Kd.R_far (p := ⟨gb258, 4, none⟩) (Kd.R_far (p := ⟨gb258, 3, none⟩) (Kd.R_far (p := ⟨gb258, 2, none⟩) (Kd.R_far (p := ⟨gb258, 1, none⟩) (Kd.R_far (p := ⟨gb258, 0, none⟩) (Kd.R_types HO250.out BK258.out (by decide)) (fun _ hk => hk.2) (.slice Ao10 t248.length co10)) (fun _ hk => hk.2) (.int .i64 t251)) (fun _ hk => hk.2) (.int .u64 t252)) (fun _ hk => hk.2) (.int .u64 t253)) (fun _ hk => hk.2) (.int .u64 t254)) (fun _ hk => hk.2) (.int .u64 t255)) (fun _ hk => hk.2) (.bool t256)) (fun _ h_ => h_.1))) hb); have n1_ := Aside0.mk (blk_below (g := gb247) (o := .cells #[.int .i64 a0_0, .int .i64 a0_1, .int .i64 a0_2, .slice A0_3 l0_3.length c0_3] 24 (0, 0)) (by (repeat (first | (with_reducible first | refine blk_drewN ?_ _ | refine blk_drew ?_ | refine blk_alloc ?_ _) | refine blk_far ?_ NB247_258.out _)); (with_reducible repeat (first | refine blk_drewN ?_ _ | refine blk_drew ?_ | refine blk_alloc ?_ _)); exact BK247.out) hb); have n2_ := Aside0.mk (blk_below (g := gb258) (o := .cells #[.slice Ao10 t248.length co10, .int .i64 t251, .int .u64 t252, .int .u64 t253, .int .u64 t254, .int .u64 t255, .bool t256] 29 (0, 0)) (by (with_reducible repeat (first | refine blk_drewN ?_ _ | refine blk_drew ?_ | refine blk_alloc ?_ _)); refine blk_put (cs := #[.slice Ao10 t248.length co10, .int .i64 t251, .int .u64 t252, .int .u64 t253, .int .u64 t254, .int .u64 t255, .bool false]) ?_ 6 _ rfl; (with_reducible repeat (first | refine blk_drewN ?_ _ | refine blk_drew ?_ | refine blk_alloc ?_ _)); refine blk_put (cs := #[.slice Ao10 t248.length co10, .int .i64 t251, .int .u64 t252, .int .u64 t253, .int .u64 t254, .int .u64 0, .bool false]) ?_ 5 _ rfl; (with_reducible repeat (first | refine blk_drewN ?_ _ | refine blk_drew ?_ | refine blk_alloc ?_ _)); refine blk_put (cs := #[.slice Ao10 t248.length co10, .int .i64 t251, .int .u64 t252, .int .u64 t253, .int .u64 0, .int .u64 0, .bool false]) ?_ 4 _ rfl; (with_reducible repeat (first | refine blk_drewN ?_ _ | refine blk_drew ?_ | refine blk_alloc ?_ _)); refine blk_put (cs := #[.slice Ao10 t248.length co10, .int .i64 t251, .int .u64 t252, .int .u64 0, .int .u64 0, .int .u64 0, .bool false]) ?_ 3 _ rfl; (with_reducible repeat (first | refine blk_drewN ?_ _ | refine blk_drew ?_ | refine blk_alloc ?_ _)); refine blk_put (cs := #[.slice Ao10 t248.length co10, .int .i64 t251, .int .u64 0, .int .u64 0, .int .u64 0, .int .u64 0, .bool false]) ?_ 2 _ rfl; (with_reducible repeat (first | refine blk_drewN ?_ _ | refine blk_drew ?_ | refine blk_alloc ?_ _)); refine blk_put (cs := #[.slice Ao10 t248.length co10, .int .i64 0, .int .u64 0, .int .u64 0, .int .u64 0, .int .u64 0, .bool false]) ?_ 1 _ rfl; (with_reducible repeat (first | refine blk_drewN ?_ _ | refine blk_drew ?_ | refine blk_alloc ?_ _)); refine blk_put (cs := #[.slice none 0 0, .int .i64 0, .int .u64 0, .int .u64 0, .int .u64 0, .int .u64 0, .bool false]) ?_ 0 _ rfl; (with_reducible repeat (first | refine blk_drewN ?_ _ | refine blk_drew ?_ | refine blk_alloc ?_ _)); exact BK258.out) hb); have n3_ := Aside0.mk (below_step (by repeat (first | (with_reducible first | exact HB.out | apply below_alloc | apply pw_below_drewN | apply below_drew1 | refine below_set ?_ GE247.out | refine below_set ?_ GE258.out) | exact HB.out)) hb); clear HO250; clear BK247; clear BK258; clear HB; have HO250 := n0_; have BK247 := n1_; have BK258 := n2_; have HB := n3_; clear n0_ n1_ n2_ n3_; (try clear hb); (try clear hb2); (try clear hk); (try clear hi)))
  (try simp only [Act.put, List.setIfInBounds_toArray, List.set_cons_zero, List.set_cons_succ])
  go_cut [26] (fun v26 wc => ∃ (kq : Nat) (x26_4 : Bool), v26 = .bool x26_4 ∧ Aside0 (offertorylaw13_StatsDecodes.j0 kq l1 t257 t259 x26_4 a0_0 a0_1 a0_2 l0_3 t248 t251 t252 t253 t254 t255 t256 = some r) ∧ Aside0 (kq ≤ k) ∧ Aside0 (Kd.R (Kd.int .i64) 3 wc w.heap.size (fun _ => True) (.slice Ao10 t248.length co10) t248) ∧ Aside0 (wc.heap[gb247]? = some (.cells #[.int .i64 a0_0, .int .i64 a0_1, .int .i64 a0_2, (.slice A0_3 l0_3.length c0_3)] 24 (0, 0))) ∧ Aside0 (wc.heap[gb258]? = some (.cells #[(.slice Ao10 t248.length co10), .int .i64 t251, .int .u64 t252, .int .u64 t253, .int .u64 t254, .int .u64 t255, .bool t256] 29 (0, 0))) ∧ Aside0 (Below w.heap.size w wc))
  case first =>
    have H := HC5.out
    clear HC5
    by_cases c15 : t259 = 0
    · rw [if_pos c15] at H
      have c15b0 : (t259 == 0) = true := beq_iff_eq.mpr c15
      have c15b1 : (t259 != 0) = false := bne_eq_false_iff_eq.mpr c15
      clear c15
      (first | rw [c15b0] | (simp only [i64_w, i32_w]; rw [c15b0]) | skip)
      replace H := Option.bind_eq_some_iff.mp H
      obtain ⟨t260, A160, H⟩ := H
      replace H : (offertorylaw13_StatsDecodes.j0 k l1 t257 t259 ((l1.length : Int) != t260) a0_0 a0_1 a0_2 l0_3 t248 t251 t252 t253 t254 t255 t256) = some r := H
      have A16 := Aside0.mk A160
      clear A160
      have H' := Aside0.mk H
      clear H
      have hnb17 := NB247_258.out
      have hnc17 := NB258_247.out
      have hcz18_0 : w14.cell? ⟨gb247, 0, none⟩ = some (.int .i64 a0_0) := (blk_cell BK247.out 0).trans rfl
      have hcz18_1 : w14.cell? ⟨gb247, 1, none⟩ = some (.int .i64 a0_1) := (blk_cell BK247.out 1).trans rfl
      have hcz18_2 : w14.cell? ⟨gb247, 2, none⟩ = some (.int .i64 a0_2) := (blk_cell BK247.out 2).trans rfl
      have hcz18_3 : w14.cell? ⟨gb247, 3, none⟩ = some (.slice A0_3 l0_3.length c0_3) := (blk_cell BK247.out 3).trans rfl
      have hfz18_0 := blk_frozen BK247.out 0
      have hfz18_1 := blk_frozen BK247.out 1
      have hfz18_2 := blk_frozen BK247.out 2
      have hfz18_3 := blk_frozen BK247.out 3
      go_wp2_with (first | (go_at_call 14; (with_reducible refine (offertoryref09_Len.calls k a0_0 a0_1 a0_2 _ _ l0_3 t260 _ ?side1 ?side2 A16.out).mono ?_); (case side1 => repeat (first | exact (Kd.C_below HR0_3.out HB.out) | (with_reducible refine Kd.C_alloc ?_ _) | (with_reducible refine Kd.C_drewN ?_ _) | (with_reducible refine Kd.C_drew ?_))); (case side2 => exact HC0_3.out); rintro e w19 ⟨rfl, hb⟩; have n0_ := Aside0.mk (Kd.R_below (by (with_reducible repeat (first | apply Kd.R_alloc | apply Kd.R_drewN | apply Kd.R_drew)); exact HO250.out) hb); have n1_ := offertorylaw13_StatsDecodes.keepB BK247 hb; have n2_ := offertorylaw13_StatsDecodes.keepB BK258 hb; have n3_ := Aside0.mk (below_step (by repeat (first | (with_reducible first | exact HB.out | apply below_alloc | apply pw_below_drewN | apply below_drew1 | refine below_set ?_ GE247.out | refine below_set ?_ GE258.out) | exact HB.out)) hb); clear HO250; clear BK247; clear BK258; clear HB; have HO250 := n0_; have BK247 := n1_; have BK258 := n2_; have HB := n3_; clear n0_ n1_ n2_ n3_; (try clear hb); (try clear hb2); (try clear hk); (try clear hi)))
      go_meet
      case rel => exact ⟨_, (((l1.length : Int) != t260)), (by first | rfl | (simp; done) | (simp [*]; done)), H', ⟨by first | omega | exact Nat.le_refl _⟩, ⟨by (with_reducible repeat (first | apply Kd.R_alloc | apply Kd.R_drewN | apply Kd.R_drew)); exact HO250.out⟩, ⟨by (with_reducible repeat (first | refine blk_drewN ?_ _ | refine blk_drew ?_ | refine blk_alloc ?_ _)); exact BK247.out⟩, ⟨by (with_reducible repeat (first | refine blk_drewN ?_ _ | refine blk_drew ?_ | refine blk_alloc ?_ _)); exact BK258.out⟩, ⟨by repeat (first | (with_reducible first | exact HB.out | apply below_alloc | apply pw_below_drewN | apply below_drew1 | refine below_set ?_ GE247.out | refine below_set ?_ GE258.out) | exact HB.out)⟩⟩
    · rw [if_neg c15] at H
      have c15b0 : (t259 == 0) = false := beq_eq_false_iff_ne.mpr c15
      have c15b1 : (t259 != 0) = true := bne_iff_ne.mpr c15
      (first | rw [c15b0] | (simp only [i64_w, i32_w]; rw [c15b0]) | skip)
      have H' := Aside0.mk H
      clear H
      go_wp2
      go_meet
      case rel => exact ⟨_, (false), (by first | rfl | (simp; done) | (simp [*]; done)), H', ⟨by first | omega | exact Nat.le_refl _⟩, ⟨by (with_reducible repeat (first | apply Kd.R_alloc | apply Kd.R_drewN | apply Kd.R_drew)); exact HO250.out⟩, ⟨by (with_reducible repeat (first | refine blk_drewN ?_ _ | refine blk_drew ?_ | refine blk_alloc ?_ _)); exact BK247.out⟩, ⟨by (with_reducible repeat (first | refine blk_drewN ?_ _ | refine blk_drew ?_ | refine blk_alloc ?_ _)); exact BK258.out⟩, ⟨by repeat (first | (with_reducible first | exact HB.out | apply below_alloc | apply pw_below_drewN | apply below_drew1 | refine below_set ?_ GE247.out | refine below_set ?_ GE258.out) | exact HB.out)⟩⟩
  case rest =>
    clear HC5
    try clear c1
    try clear p2
    try clear c4
    try clear c9
    try clear c11
    try clear c13
    try clear c15
    try clear c15b0
    try clear c15b1
    try clear c17
    try clear hcz12_0
    try clear hcz12_1
    try clear hcz12_2
    try clear hcz12_3
    try clear hcz12_4
    try clear hcz12_5
    try clear hcz12_6
    try clear hcz13_0
    try clear hcz13_1
    try clear hcz13_2
    try clear hcz13_3
    try clear hcz18_0
    try clear hcz18_1
    try clear hcz18_2
    try clear hcz18_3
    try clear hcz7_0
    try clear hcz7_1
    try clear hcz7_2
    try clear hcz7_3
    try clear hfz12_0
    try clear hfz12_1
    try clear hfz12_2
    try clear hfz12_3
    try clear hfz12_4
    try clear hfz12_5
    try clear hfz12_6
    try clear hfz13_0
    try clear hfz13_1
    try clear hfz13_2
    try clear hfz13_3
    try clear hfz18_0
    try clear hfz18_1
    try clear hfz18_2
    try clear hfz18_3
    try clear hfz7_0
    try clear hfz7_1
    try clear hfz7_2
    try clear hfz7_3
    obtain ⟨kq, x26_4, rfl, HA, HJ4, HO_259000, BK247, BK258, HB⟩ := hcut
    cases kq with
    | zero => exact absurd HA.out (by simp [offertorylaw13_StatsDecodes.j0])
    | succ kj4 =>
      have H := HA.out
      clear HA
      simp only [offertorylaw13_StatsDecodes.j0] at H
      have HC20 := Aside0.mk H
      clear H
      go_upto_if 26 with (fail)
      go_cut [7] (fun v7 wc => ∃ (kq : Nat) (x7_19 : Int), v7 = .int .i64 x7_19 ∧ Aside0 (offertorylaw13_StatsDecodes.j1 kq l1 t257 x7_19 a0_0 a0_1 a0_2 l0_3 t248 t251 t252 t253 t254 t255 t256 = some r) ∧ Aside0 (kq ≤ kj4) ∧ Aside0 (Kd.R (Kd.int .i64) 3 wc w.heap.size (fun _ => True) (.slice Ao10 t248.length co10) t248) ∧ Aside0 (wc.heap[gb247]? = some (.cells #[.int .i64 a0_0, .int .i64 a0_1, .int .i64 a0_2, (.slice A0_3 l0_3.length c0_3)] 24 (0, 0))) ∧ Aside0 (wc.heap[gb258]? = some (.cells #[(.slice Ao10 t248.length co10), .int .i64 t251, .int .u64 t252, .int .u64 t253, .int .u64 t254, .int .u64 t255, .bool t256] 29 (0, 0))) ∧ Aside0 (Below w.heap.size w wc))
      case first =>
        have H := HC20.out
        clear HC20
        by_cases c21 : x26_4 = true
        · subst c21
          have H1 : (offertorylaw13_StatsDecodes.j1 kj4 l1 t257 1 a0_0 a0_1 a0_2 l0_3 t248 t251 t252 t253 t254 t255 t256) = some r := by rw [if_pos rfl] at H; exact H
          clear H
          have H := H1
          clear H1
          have H' := Aside0.mk H
          clear H
          go_wp2
          go_meet
          case rel => exact ⟨_, (1), (by first | rfl | (simp; done) | (simp [*]; done)), H', ⟨by have := HJ4.out; first | omega | exact Nat.le_refl _⟩, ⟨by (with_reducible repeat (first | apply Kd.R_alloc | apply Kd.R_drewN | apply Kd.R_drew)); exact HO_259000.out⟩, ⟨by (with_reducible repeat (first | refine blk_drewN ?_ _ | refine blk_drew ?_ | refine blk_alloc ?_ _)); exact BK247.out⟩, ⟨by (with_reducible repeat (first | refine blk_drewN ?_ _ | refine blk_drew ?_ | refine blk_alloc ?_ _)); exact BK258.out⟩, ⟨by repeat (first | (with_reducible first | exact HB.out | apply below_alloc | apply pw_below_drewN | apply below_drew1 | refine below_set ?_ GE247.out | refine below_set ?_ GE258.out) | exact HB.out)⟩⟩
        · replace c21 := Bool.eq_false_iff.mpr c21
          subst c21
          have H1 : (offertorylaw13_StatsDecodes.j1 kj4 l1 t257 t259 a0_0 a0_1 a0_2 l0_3 t248 t251 t252 t253 t254 t255 t256) = some r := by rw [if_neg (show ¬ (false = true) by decide)] at H; exact H
          clear H
          have H := H1
          clear H1
          have H' := Aside0.mk H
          clear H
          go_wp2
          go_meet
          case rel => exact ⟨_, (t259), (by first | rfl | (simp; done) | (simp [*]; done)), H', ⟨by have := HJ4.out; first | omega | exact Nat.le_refl _⟩, ⟨by (with_reducible repeat (first | apply Kd.R_alloc | apply Kd.R_drewN | apply Kd.R_drew)); exact HO_259000.out⟩, ⟨by (with_reducible repeat (first | refine blk_drewN ?_ _ | refine blk_drew ?_ | refine blk_alloc ?_ _)); exact BK247.out⟩, ⟨by (with_reducible repeat (first | refine blk_drewN ?_ _ | refine blk_drew ?_ | refine blk_alloc ?_ _)); exact BK258.out⟩, ⟨by repeat (first | (with_reducible first | exact HB.out | apply below_alloc | apply pw_below_drewN | apply below_drew1 | refine below_set ?_ GE247.out | refine below_set ?_ GE258.out) | exact HB.out)⟩⟩
      case rest =>
        clear HC20
        try clear c1
        try clear c2
        try clear p2
        try clear c4
        try clear c9
        try clear c11
        try clear c13
        try clear c15
        try clear c15b0
        try clear c15b1
        try clear c17
        try clear c21
        try clear hcz12_0
        try clear hcz12_1
        try clear hcz12_2
        try clear hcz12_3
        try clear hcz12_4
        try clear hcz12_5
        try clear hcz12_6
        try clear hcz13_0
        try clear hcz13_1
        try clear hcz13_2
        try clear hcz13_3
        try clear hcz18_0
        try clear hcz18_1
        try clear hcz18_2
        try clear hcz18_3
        try clear hcz7_0
        try clear hcz7_1
        try clear hcz7_2
        try clear hcz7_3
        try clear hfz12_0
        try clear hfz12_1
        try clear hfz12_2
        try clear hfz12_3
        try clear hfz12_4
        try clear hfz12_5
        try clear hfz12_6
        try clear hfz13_0
        try clear hfz13_1
        try clear hfz13_2
        try clear hfz13_3
        try clear hfz18_0
        try clear hfz18_1
        try clear hfz18_2
        try clear hfz18_3
        try clear hfz7_0
        try clear hfz7_1
        try clear hfz7_2
        try clear hfz7_3
        try clear p2
        obtain ⟨kq, x7_19, rfl, HA, HJ19, HO_259000, BK247, BK258, HB⟩ := hcut
        cases kq with
        | zero => exact absurd HA.out (by simp [offertorylaw13_StatsDecodes.j1])
        | succ kj19 =>
          have H := HA.out
          clear HA
          simp only [offertorylaw13_StatsDecodes.j1] at H
          by_cases c22 : x7_19 = 0
          · rw [if_pos c22] at H
            have c22b0 : (x7_19 == 0) = true := beq_iff_eq.mpr c22
            have c22b1 : (x7_19 != 0) = false := bne_eq_false_iff_eq.mpr c22
            clear c22
            replace H := Option.bind_eq_some_iff.mp H
            obtain ⟨⟨t261, t264, t265, t266, t267, t268, t269, t270⟩, A230, H⟩ := H
            replace H : ((offertorylaw13_awake.f kj19).bind fun t272 => (if t272 = true then (if t257 = t270 then ((offertoryref09_Same.f kj19 t248 t251 t252 t253 t254 t255 t256 t261 t264 t265 t266 t267 t268 t269).bind fun t273 => (some t273)) else (none)) else (none))) = some r := H
            have A23 := Aside0.mk A230
            clear A230
            replace H := Option.bind_eq_some_iff.mp H
            obtain ⟨t272, A240, H⟩ := H
            replace H : (if t272 = true then (if t257 = t270 then ((offertoryref09_Same.f kj19 t248 t251 t252 t253 t254 t255 t256 t261 t264 t265 t266 t267 t268 t269).bind fun t273 => (some t273)) else (none)) else (none)) = some r := H
            have A24 := Aside0.mk A240
            clear A240
            by_cases c25 : t272 = true
            · subst c25
              have H1 : (if t257 = t270 then ((offertoryref09_Same.f kj19 t248 t251 t252 t253 t254 t255 t256 t261 t264 t265 t266 t267 t268 t269).bind fun t273 => (some t273)) else (none)) = some r := by rw [if_pos rfl] at H; exact H
              clear H
              have H := H1
              clear H1
              by_cases c26 : t257 = t270
              · rw [if_pos c26] at H
                have c26b0 : (t257 == t270) = true := beq_iff_eq.mpr c26
                have c26b1 : (t257 != t270) = false := bne_eq_false_iff_eq.mpr c26
                clear c26
                replace H := Option.bind_eq_some_iff.mp H
                obtain ⟨t273, A270, H⟩ := H
                replace H : (some t273) = some r := H
                have A27 := Aside0.mk A270
                clear A270
                obtain rfl := Option.some.inj H
                have hnb28 := NB247_258.out
                have hnc28 := NB258_247.out
                have hcz29_0 : wc.cell? ⟨gb247, 0, none⟩ = some (.int .i64 a0_0) := (blk_cell BK247.out 0).trans rfl
                have hcz29_1 : wc.cell? ⟨gb247, 1, none⟩ = some (.int .i64 a0_1) := (blk_cell BK247.out 1).trans rfl
                have hcz29_2 : wc.cell? ⟨gb247, 2, none⟩ = some (.int .i64 a0_2) := (blk_cell BK247.out 2).trans rfl
                have hcz29_3 : wc.cell? ⟨gb247, 3, none⟩ = some (.slice A0_3 l0_3.length c0_3) := (blk_cell BK247.out 3).trans rfl
                have hfz29_0 := blk_frozen BK247.out 0
                have hfz29_1 := blk_frozen BK247.out 1
                have hfz29_2 := blk_frozen BK247.out 2
                have hfz29_3 := blk_frozen BK247.out 3
                go_wp2_with (first | ((with_reducible refine gate_callee (f := 15) rfl ?_); refine goesL_ (some 43) rfl rfl Try.func15 (by kernel_rfl) rfl #[.agg #[.int .i64 a0_0, .int .i64 a0_1, .int .i64 a0_2, .slice A0_3 l0_3.length c0_3], .slice A1 l1.length c1] rfl (by (try simp only [List.map_toArray, List.map_cons, List.map_nil]); first | done | rfl | (simp only [List.length_drop, List.length_take]; rfl)) ?_; (with_reducible refine (offertoryref09_Decode.calls kj19 a0_0 a0_1 a0_2 _ _ l0_3 _ _ l1 t261 t264 t265 t266 t267 t268 t269 t270 _ ?side1 ?side2 ?side3 ?side4 A23.out).mono ?_); (case side1 => repeat (first | exact (Kd.C_below HR0_3.out HB.out) | (with_reducible refine Kd.C_alloc ?_ _) | (with_reducible refine Kd.C_drewN ?_ _) | (with_reducible refine Kd.C_drew ?_))); (case side2 => exact HC0_3.out); (case side3 => repeat (first | exact (Kd.C_below HR1.out HB.out) | (with_reducible refine Kd.C_alloc ?_ _) | (with_reducible refine Kd.C_drewN ?_ _) | (with_reducible refine Kd.C_drew ?_))); (case side4 => exact HC1.out); rintro e w30 ⟨v262, rfl, ho0, hb⟩; refine ⟨_, rfl, ?_⟩; have n0_ := Aside0.mk (Kd.R_elder' (by (with_reducible repeat (first | apply Kd.R_alloc | apply Kd.R_drewN | apply Kd.R_drew)); exact HO_259000.out) (Kd.R_base ho0) hb); have n1_ := Aside0.mk (Kd.R_lower (Kd.R_new' ho0 (Kd.R_lt (by (with_reducible repeat (first | apply Kd.R_alloc | apply Kd.R_drewN | apply Kd.R_drew)); exact HO_259000.out))) (below_size (by repeat (first | (with_reducible first | exact HB.out | apply below_alloc | apply pw_below_drewN | apply below_drew1 | refine below_set ?_ GE247.out | refine below_set ?_ GE258.out) | exact HB.out)))); have n2_ := offertorylaw13_StatsDecodes.keepB BK247 hb; have n3_ := offertorylaw13_StatsDecodes.keepB BK258 hb; have n4_ := Aside0.mk (below_step (by repeat (first | (with_reducible first | exact HB.out | apply below_alloc | apply pw_below_drewN | apply below_drew1 | refine below_set ?_ GE247.out | refine below_set ?_ GE258.out) | exact HB.out)) hb); clear HO_259000; clear BK247; clear BK258; clear HB; have HO_259000 := n0_; have HO263 := n1_; have BK247 := n2_; have BK258 := n3_; have HB := n4_; clear n0_ n1_ n2_ n3_ n4_; (try clear hb); (try clear hb2); (try clear hk); (try clear hi); (try clear ho0)) | ((with_reducible refine gate_dst (N := 8) rfl ?_); (try (refine gate_guard (by rfl) ?_; dsimp only)); refine box_event ?hg (N := 8) ?hd (cs := #[.slice none 0 0, .int .i64 0, .int .u64 0, .int .u64 0, .int .u64 0, .int .u64 0, .bool false]) (t := 29) ?hr ?_; (case hd => rfl); (case hg => rfl); (case hr => first | (go_simp; done) | (go_simp; rfl)); intro gb271 hg w31 hbox hb; have n0_ := Aside0.mk (Kd.R_below (by (with_reducible repeat (first | apply Kd.R_alloc | apply Kd.R_drewN | apply Kd.R_drew)); exact HO_259000.out) hb); have n1_ := Aside0.mk (Kd.R_below (by (with_reducible repeat (first | apply Kd.R_alloc | apply Kd.R_drewN | apply Kd.R_drew)); exact HO263.out) hb); have n2_ := offertorylaw13_StatsDecodes.keepB BK247 hb; have n3_ := offertorylaw13_StatsDecodes.keepB BK258 hb; have n4_ := Aside0.mk (below_step (by repeat (first | (with_reducible first | exact HB.out | apply below_alloc | apply pw_below_drewN | apply below_drew1 | refine below_set ?_ GE247.out | refine below_set ?_ GE258.out) | exact HB.out)) hb); have n5_ := Aside0.mk (hbox); have n6_ := Aside0.mk ((by rw [hg]; exact (below_size (by repeat (first | (with_reducible first | exact HB.out | apply below_alloc | apply pw_below_drewN | apply below_drew1 | refine below_set ?_ GE247.out | refine below_set ?_ GE258.out) | exact HB.out))) : w.heap.size ≤ gb271)); have n7_ := Aside0.mk ((by rw [hg]; exact (below_size (by repeat (first | (with_reducible first | exact HB.out | apply below_alloc | apply pw_below_drewN | apply below_drew1 | refine below_set ?_ GE247.out | refine below_set ?_ GE258.out) | exact HB.out))) : w.heap.size ≤ gb271)); have n8_ := offertorylaw13_StatsDecodes.neL BK247 hg; have n9_ := offertorylaw13_StatsDecodes.neG BK247 hg; have n10_ := offertorylaw13_StatsDecodes.neL BK258 hg; have n11_ := offertorylaw13_StatsDecodes.neG BK258 hg; clear HO_259000; clear HO263; clear BK247; clear BK258; clear HB; have HO_259000 := n0_; have HO263 := n1_; have BK247 := n2_; have BK258 := n3_; have HB := n4_; have BK271 := n5_; have GW271 := n6_; have GE271 := n7_; have NB247_271 := n8_; have NB271_247 := n9_; have NB258_271 := n10_; have NB271_258 := n11_; clear n0_ n1_ n2_ n3_ n4_ n5_ n6_ n7_ n8_ n9_ n10_ n11_; clear hb hbox hg; obtain ⟨Ao32, co32, eo32⟩ := Kd.R_slice HO263.out; subst eo32; have hnb33 := NB271_247.out; have hnc33 := NB247_271.out; have hnb34 := NB271_258.out; have hnc34 := NB258_271.out; have hcz35_0 : w31.cell? ⟨gb271, 0, none⟩ = some (.slice none 0 0) := (blk_cell BK271.out 0).trans rfl; have hcz35_1 : w31.cell? ⟨gb271, 1, none⟩ = some (.int .i64 0) := (blk_cell BK271.out 1).trans rfl; have hcz35_2 : w31.cell? ⟨gb271, 2, none⟩ = some (.int .u64 0) := (blk_cell BK271.out 2).trans rfl; have hcz35_3 : w31.cell? ⟨gb271, 3, none⟩ = some (.int .u64 0) := (blk_cell BK271.out 3).trans rfl; have hcz35_4 : w31.cell? ⟨gb271, 4, none⟩ = some (.int .u64 0) := (blk_cell BK271.out 4).trans rfl; have hcz35_5 : w31.cell? ⟨gb271, 5, none⟩ = some (.int .u64 0) := (blk_cell BK271.out 5).trans rfl; have hcz35_6 : w31.cell? ⟨gb271, 6, none⟩ = some (.bool false) := (blk_cell BK271.out 6).trans rfl; have hfz35_0 := blk_frozen BK271.out 0; have hfz35_1 := blk_frozen BK271.out 1; have hfz35_2 := blk_frozen BK271.out 2; have hfz35_3 := blk_frozen BK271.out 3; have hfz35_4 := blk_frozen BK271.out 4; have hfz35_5 := blk_frozen BK271.out 5; have hfz35_6 := blk_frozen BK271.out 6) | ((with_reducible refine gate_callee (f := 10) rfl ?_); refine goesL_ (some 46) rfl rfl Try.func10 (by kernel_rfl) rfl #[] rfl (by (try simp only [List.map_toArray, List.map_cons, List.map_nil]); first | done | rfl | (simp only [List.length_drop, List.length_take]; rfl)) ?_; (with_reducible refine (offertorylaw13_awake.calls kj19  true _ A24.out).mono ?_); rintro e w36 ⟨rfl, hb⟩; refine ⟨_, rfl, ?_⟩; have n0_ := Aside0.mk (Kd.R_below (by (with_reducible repeat (first | apply Kd.R_alloc | apply Kd.R_drewN | apply Kd.R_drew)); exact (Kd.R_mono (Kd.R_far (p := ⟨gb271, 6, none⟩) (Kd.R_far (p := ⟨gb271, 5, none⟩) (Kd.R_far (p := ⟨gb271, 4, none⟩) (Kd.R_far (p := ⟨gb271, 3, none⟩) (Kd.R_far (p := ⟨gb271, 2, none⟩) (Kd.R_far (p := ⟨gb271, 1, none⟩) (Kd.R_far (p := ⟨gb271, 0, none⟩) (Kd.R_types HO_259000.out BK271.out (by decide)) (fun _ hk => hk.2) (.slice Ao32 t261.length co32)) (fun _ hk => hk.2) (.int .i64 t264)) (fun _ hk => hk.2) (.int .u64 t265)) (fun _ hk => hk.2) (.int .u64 t266)) (fun _ hk => hk.2) (.int .u64 t267)) (fun _ hk => hk.2) (.int .u64 t268)) (fun _ hk => hk.2) (.bool t269)) (fun _ h_ => h_.1))) hb); have n1_ := Aside0.mk (Kd.R_below (by (with_reducible repeat (first | apply Kd.R_alloc | apply Kd.R_drewN | apply Kd.R_drew)); exact (Kd.R_mono (Kd.R_far (p := ⟨gb271, 6, none⟩) (Kd.R_far (p := ⟨gb271, 5, none⟩) (Kd.R_far (p := ⟨gb271, 4, none⟩) (Kd.R_far (p := ⟨gb271, 3, none⟩) (Kd.R_far (p := ⟨gb271, 2, none⟩) (Kd.R_far (p := ⟨gb271, 1, none⟩) (Kd.R_far (p := ⟨gb271, 0, none⟩) (Kd.R_types HO263.out BK271.out (by decide)) (fun _ hk => hk.2) (.slice Ao32 t261.length co32)) (fun _ hk => hk.2) (.int .i64 t264)) (fun _ hk => hk.2) (.int .u64 t265)) (fun _ hk => hk.2) (.int .u64 t266)) (fun _ hk => hk.2) (.int .u64 t267)) (fun _ hk => hk.2) (.int .u64 t268)) (fun _ hk => hk.2) (.bool t269)) (fun _ h_ => h_.1))) hb); have n2_ := Aside0.mk (blk_below (g := gb247) (o := .cells #[.int .i64 a0_0, .int .i64 a0_1, .int .i64 a0_2, .slice A0_3 l0_3.length c0_3] 24 (0, 0)) (by (repeat (first | (with_reducible first | refine blk_drewN ?_ _ | refine blk_drew ?_ | refine blk_alloc ?_ _) | refine blk_far ?_ NB247_271.out _)); (with_reducible repeat (first | refine blk_drewN ?_ _ | refine blk_drew ?_ | refine blk_alloc ?_ _)); exact BK247.out) hb); have n3_ := Aside0.mk (blk_below (g := gb258) (o := .cells #[.slice Ao10 t248.length co10, .int .i64 t251, .int .u64 t252, .int .u64 t253, .int .u64 t254, .int .u64 t255, .bool t256] 29 (0, 0)) (by (repeat (first | (with_reducible first | refine blk_drewN ?_ _ | refine blk_drew ?_ | refine blk_alloc ?_ _) | refine blk_far ?_ NB258_271.out _)); (with_reducible repeat (first | refine blk_drewN ?_ _ | refine blk_drew ?_ | refine blk_alloc ?_ _)); exact BK258.out) hb); have n4_ := Aside0.mk (blk_below (g := gb271) (o := .cells #[.slice Ao32 t261.length co32, .int .i64 t264, .int .u64 t265, .int .u64 t266, .int .u64 t267, .int .u64 t268, .bool t269] 29 (0, 0)) (by (with_reducible repeat (first | refine blk_drewN ?_ _ | refine blk_drew ?_ | refine blk_alloc ?_ _)); refine blk_put (cs := #[.slice Ao32 t261.length co32, .int .i64 t264, .int .u64 t265, .int .u64 t266, .int .u64 t267, .int .u64 t268, .bool false]) ?_ 6 _ rfl; (with_reducible repeat (first | refine blk_drewN ?_ _ | refine blk_drew ?_ | refine blk_alloc ?_ _)); refine blk_put (cs := #[.slice Ao32 t261.length co32, .int .i64 t264, .int .u64 t265, .int .u64 t266, .int .u64 t267, .int .u64 0, .bool false]) ?_ 5 _ rfl; (with_reducible repeat (first | refine blk_drewN ?_ _ | refine blk_drew ?_ | refine blk_alloc ?_ _)); refine blk_put (cs := #[.slice Ao32 t261.length co32, .int .i64 t264, .int .u64 t265, .int .u64 t266, .int .u64 0, .int .u64 0, .bool false]) ?_ 4 _ rfl; (with_reducible repeat (first | refine blk_drewN ?_ _ | refine blk_drew ?_ | refine blk_alloc ?_ _)); refine blk_put (cs := #[.slice Ao32 t261.length co32, .int .i64 t264, .int .u64 t265, .int .u64 0, .int .u64 0, .int .u64 0, .bool false]) ?_ 3 _ rfl; (with_reducible repeat (first | refine blk_drewN ?_ _ | refine blk_drew ?_ | refine blk_alloc ?_ _)); refine blk_put (cs := #[.slice Ao32 t261.length co32, .int .i64 t264, .int .u64 0, .int .u64 0, .int .u64 0, .int .u64 0, .bool false]) ?_ 2 _ rfl; (with_reducible repeat (first | refine blk_drewN ?_ _ | refine blk_drew ?_ | refine blk_alloc ?_ _)); refine blk_put (cs := #[.slice Ao32 t261.length co32, .int .i64 0, .int .u64 0, .int .u64 0, .int .u64 0, .int .u64 0, .bool false]) ?_ 1 _ rfl; (with_reducible repeat (first | refine blk_drewN ?_ _ | refine blk_drew ?_ | refine blk_alloc ?_ _)); refine blk_put (cs := #[.slice none 0 0, .int .i64 0, .int .u64 0, .int .u64 0, .int .u64 0, .int .u64 0, .bool false]) ?_ 0 _ rfl; (with_reducible repeat (first | refine blk_drewN ?_ _ | refine blk_drew ?_ | refine blk_alloc ?_ _)); exact BK271.out) hb); have n5_ := Aside0.mk (below_step (by repeat (first | (with_reducible first | exact HB.out | apply below_alloc | apply pw_below_drewN | apply below_drew1 | refine below_set ?_ GE247.out | refine below_set ?_ GE258.out | refine below_set ?_ GE271.out) | exact HB.out)) hb); clear HO_259000; clear HO263; clear BK247; clear BK258; clear BK271; clear HB; have HO_259000 := n0_; have HO263 := n1_; have BK247 := n2_; have BK258 := n3_; have BK271 := n4_; have HB := n5_; clear n0_ n1_ n2_ n3_ n4_ n5_; (try clear hb); (try clear hb2); (try clear hk); (try clear hi); have hcz37_0 : w36.cell? ⟨gb258, 0, none⟩ = some (.slice Ao10 t248.length co10) := (blk_cell BK258.out 0).trans rfl; have hcz37_1 : w36.cell? ⟨gb258, 1, none⟩ = some (.int .i64 t251) := (blk_cell BK258.out 1).trans rfl; have hcz37_2 : w36.cell? ⟨gb258, 2, none⟩ = some (.int .u64 t252) := (blk_cell BK258.out 2).trans rfl; have hcz37_3 : w36.cell? ⟨gb258, 3, none⟩ = some (.int .u64 t253) := (blk_cell BK258.out 3).trans rfl; have hcz37_4 : w36.cell? ⟨gb258, 4, none⟩ = some (.int .u64 t254) := (blk_cell BK258.out 4).trans rfl; have hcz37_5 : w36.cell? ⟨gb258, 5, none⟩ = some (.int .u64 t255) := (blk_cell BK258.out 5).trans rfl; have hcz37_6 : w36.cell? ⟨gb258, 6, none⟩ = some (.bool t256) := (blk_cell BK258.out 6).trans rfl; have hfz37_0 := blk_frozen BK258.out 0; have hfz37_1 := blk_frozen BK258.out 1; have hfz37_2 := blk_frozen BK258.out 2; have hfz37_3 := blk_frozen BK258.out 3; have hfz37_4 := blk_frozen BK258.out 4; have hfz37_5 := blk_frozen BK258.out 5; have hfz37_6 := blk_frozen BK258.out 6; have hcz38_0 : w36.cell? ⟨gb271, 0, none⟩ = some (.slice Ao32 t261.length co32) := (blk_cell BK271.out 0).trans rfl; have hcz38_1 : w36.cell? ⟨gb271, 1, none⟩ = some (.int .i64 t264) := (blk_cell BK271.out 1).trans rfl; have hcz38_2 : w36.cell? ⟨gb271, 2, none⟩ = some (.int .u64 t265) := (blk_cell BK271.out 2).trans rfl; have hcz38_3 : w36.cell? ⟨gb271, 3, none⟩ = some (.int .u64 t266) := (blk_cell BK271.out 3).trans rfl; have hcz38_4 : w36.cell? ⟨gb271, 4, none⟩ = some (.int .u64 t267) := (blk_cell BK271.out 4).trans rfl; have hcz38_5 : w36.cell? ⟨gb271, 5, none⟩ = some (.int .u64 t268) := (blk_cell BK271.out 5).trans rfl; have hcz38_6 : w36.cell? ⟨gb271, 6, none⟩ = some (.bool t269) := (blk_cell BK271.out 6).trans rfl; have hfz38_0 := blk_frozen BK271.out 0; have hfz38_1 := blk_frozen BK271.out 1; have hfz38_2 := blk_frozen BK271.out 2; have hfz38_3 := blk_frozen BK271.out 3; have hfz38_4 := blk_frozen BK271.out 4; have hfz38_5 := blk_frozen BK271.out 5; have hfz38_6 := blk_frozen BK271.out 6) | (go_at_call 11; (with_reducible refine (offertoryref09_Same.calls kj19 _ _ t248 t251 t252 t253 t254 t255 t256 _ _ t261 t264 t265 t266 t267 t268 t269 t273 _ ?side1 ?side2 ?side3 ?side4 A27.out).mono ?_); (case side1 => repeat (first | exact (Kd.R_reads' HO_259000.out).2.2 | (with_reducible refine Kd.C_alloc ?_ _) | (with_reducible refine Kd.C_drewN ?_ _) | (with_reducible refine Kd.C_drew ?_))); (case side2 => exact (Kd.R_reads' HO_259000.out).2.1); (case side3 => repeat (first | exact (Kd.R_reads' HO263.out).2.2 | (with_reducible refine Kd.C_alloc ?_ _) | (with_reducible refine Kd.C_drewN ?_ _) | (with_reducible refine Kd.C_drew ?_))); (case side4 => exact (Kd.R_reads' HO263.out).2.1); rintro e w39 ⟨rfl, hb⟩; have n0_ := Aside0.mk (Kd.R_below (by (with_reducible repeat (first | apply Kd.R_alloc | apply Kd.R_drewN | apply Kd.R_drew)); exact HO_259000.out) hb); have n1_ := Aside0.mk (Kd.R_below (by (with_reducible repeat (first | apply Kd.R_alloc | apply Kd.R_drewN | apply Kd.R_drew)); exact HO263.out) hb); have n2_ := offertorylaw13_StatsDecodes.keepB BK247 hb; have n3_ := offertorylaw13_StatsDecodes.keepB BK258 hb; have n4_ := offertorylaw13_StatsDecodes.keepB BK271 hb; have n5_ := Aside0.mk (below_step (by repeat (first | (with_reducible first | exact HB.out | apply below_alloc | apply pw_below_drewN | apply below_drew1 | refine below_set ?_ GE247.out | refine below_set ?_ GE258.out | refine below_set ?_ GE271.out) | exact HB.out)) hb); clear HO_259000; clear HO263; clear BK247; clear BK258; clear BK271; clear HB; have HO_259000 := n0_; have HO263 := n1_; have BK247 := n2_; have BK258 := n3_; have BK271 := n4_; have HB := n5_; clear n0_ n1_ n2_ n3_ n4_ n5_; (try clear hb); (try clear hb2); (try clear hk); (try clear hi)))
                go_ret
                exact ⟨by first | rfl | (simp [errW_none, errW_some] <;> rfl) | (simp [*, errW_none, errW_some] <;> rfl), by repeat (first | (with_reducible first | exact HB.out | apply below_alloc | apply pw_below_drewN | apply below_drew1 | refine below_set ?_ GE247.out | refine below_set ?_ GE258.out | refine below_set ?_ GE271.out) | exact HB.out)⟩
              · rw [if_neg c26] at H
                exact absurd H (by simp)
            · replace c25 := Bool.eq_false_iff.mpr c25
              subst c25
              have H1 : (none) = some r := by rw [if_neg (show ¬ (false = true) by decide)] at H; exact H
              clear H
              have H := H1
              clear H1
              exact absurd H (by simp)
          · rw [if_neg c22] at H
            have c22b0 : (x7_19 == 0) = false := beq_eq_false_iff_ne.mpr c22
            have c22b1 : (x7_19 != 0) = true := bne_iff_ne.mpr c22
            replace H := Option.bind_eq_some_iff.mp H
            obtain ⟨t274, A400, H⟩ := H
            replace H : (if t274 = true then (if t257 = x7_19 then ((offertoryref09_Same.f kj19 t248 t251 t252 t253 t254 t255 t256 ([] : List Int) 0 0 0 0 0 false).bind fun t275 => (some t275)) else (none)) else (none)) = some r := H
            have A40 := Aside0.mk A400
            clear A400
            by_cases c41 : t274 = true
            · subst c41
              have H1 : (if t257 = x7_19 then ((offertoryref09_Same.f kj19 t248 t251 t252 t253 t254 t255 t256 ([] : List Int) 0 0 0 0 0 false).bind fun t275 => (some t275)) else (none)) = some r := by rw [if_pos rfl] at H; exact H
              clear H
              have H := H1
              clear H1
              by_cases c42 : t257 = x7_19
              · rw [if_pos c42] at H
                have c42b0 : (t257 == x7_19) = true := beq_iff_eq.mpr c42
                have c42b1 : (t257 != x7_19) = false := bne_eq_false_iff_eq.mpr c42
                clear c42
                replace H := Option.bind_eq_some_iff.mp H
                obtain ⟨t275, A430, H⟩ := H
                replace H : (some t275) = some r := H
                have A43 := Aside0.mk A430
                clear A430
                obtain rfl := Option.some.inj H
                go_wp2_with (first | ((with_reducible refine gate_callee (f := 10) rfl ?_); refine goesL_ (some 29) rfl rfl Try.func10 (by kernel_rfl) rfl #[] rfl (by (try simp only [List.map_toArray, List.map_cons, List.map_nil]); first | done | rfl | (simp only [List.length_drop, List.length_take]; rfl)) ?_; (with_reducible refine (offertorylaw13_awake.calls kj19  true _ A40.out).mono ?_); rintro e w44 ⟨rfl, hb⟩; refine ⟨_, rfl, ?_⟩; have n0_ := Aside0.mk (Kd.R_below (by (with_reducible repeat (first | apply Kd.R_alloc | apply Kd.R_drewN | apply Kd.R_drew)); exact HO_259000.out) hb); have n1_ := offertorylaw13_StatsDecodes.keepB BK247 hb; have n2_ := offertorylaw13_StatsDecodes.keepB BK258 hb; have n3_ := Aside0.mk (below_step (by repeat (first | (with_reducible first | exact HB.out | apply below_alloc | apply pw_below_drewN | apply below_drew1 | refine below_set ?_ GE247.out | refine below_set ?_ GE258.out) | exact HB.out)) hb); clear HO_259000; clear BK247; clear BK258; clear HB; have HO_259000 := n0_; have BK247 := n1_; have BK258 := n2_; have HB := n3_; clear n0_ n1_ n2_ n3_; (try clear hb); (try clear hb2); (try clear hk); (try clear hi); have hnb45 := NB258_247.out; have hnc45 := NB247_258.out; have hcz46_0 : w44.cell? ⟨gb258, 0, none⟩ = some (.slice Ao10 t248.length co10) := (blk_cell BK258.out 0).trans rfl; have hcz46_1 : w44.cell? ⟨gb258, 1, none⟩ = some (.int .i64 t251) := (blk_cell BK258.out 1).trans rfl; have hcz46_2 : w44.cell? ⟨gb258, 2, none⟩ = some (.int .u64 t252) := (blk_cell BK258.out 2).trans rfl; have hcz46_3 : w44.cell? ⟨gb258, 3, none⟩ = some (.int .u64 t253) := (blk_cell BK258.out 3).trans rfl; have hcz46_4 : w44.cell? ⟨gb258, 4, none⟩ = some (.int .u64 t254) := (blk_cell BK258.out 4).trans rfl; have hcz46_5 : w44.cell? ⟨gb258, 5, none⟩ = some (.int .u64 t255) := (blk_cell BK258.out 5).trans rfl; have hcz46_6 : w44.cell? ⟨gb258, 6, none⟩ = some (.bool t256) := (blk_cell BK258.out 6).trans rfl; have hfz46_0 := blk_frozen BK258.out 0; have hfz46_1 := blk_frozen BK258.out 1; have hfz46_2 := blk_frozen BK258.out 2; have hfz46_3 := blk_frozen BK258.out 3; have hfz46_4 := blk_frozen BK258.out 4; have hfz46_5 := blk_frozen BK258.out 5; have hfz46_6 := blk_frozen BK258.out 6) | (go_at_call 11; (refine (offertoryref09_Same.calls kj19 _ _ t248 t251 t252 t253 t254 t255 t256 _ _ ([] : List Int) 0 0 0 0 0 false t275 _ ?side1 ?side2 ?side3 ?side4 A43.out).mono ?_); (case side1 => repeat (first | exact (Kd.R_reads' HO_259000.out).2.2 | (with_reducible refine Kd.C_alloc ?_ _) | (with_reducible refine Kd.C_drewN ?_ _) | (with_reducible refine Kd.C_drew ?_))); (case side2 => exact (Kd.R_reads' HO_259000.out).2.1); (case side3 => exact Kd.C_nil _ _); (case side4 => exact Nat.le_refl _); rintro e w47 ⟨rfl, hb⟩; have n0_ := Aside0.mk (Kd.R_below (by (with_reducible repeat (first | apply Kd.R_alloc | apply Kd.R_drewN | apply Kd.R_drew)); exact HO_259000.out) hb); have n1_ := offertorylaw13_StatsDecodes.keepB BK247 hb; have n2_ := offertorylaw13_StatsDecodes.keepB BK258 hb; have n3_ := Aside0.mk (below_step (by repeat (first | (with_reducible first | exact HB.out | apply below_alloc | apply pw_below_drewN | apply below_drew1 | refine below_set ?_ GE247.out | refine below_set ?_ GE258.out) | exact HB.out)) hb); clear HO_259000; clear BK247; clear BK258; clear HB; have HO_259000 := n0_; have BK247 := n1_; have BK258 := n2_; have HB := n3_; clear n0_ n1_ n2_ n3_; (try clear hb); (try clear hb2); (try clear hk); (try clear hi)))
                go_ret
                exact ⟨by first | rfl | (simp [errW_none, errW_some] <;> rfl) | (simp [*, errW_none, errW_some] <;> rfl), by repeat (first | (with_reducible first | exact HB.out | apply below_alloc | apply pw_below_drewN | apply below_drew1 | refine below_set ?_ GE247.out | refine below_set ?_ GE258.out) | exact HB.out)⟩
              · rw [if_neg c42] at H
                exact absurd H (by simp)
            · replace c41 := Bool.eq_false_iff.mpr c41
              subst c41
              have H1 : (none) = some r := by rw [if_neg (show ¬ (false = true) by decide)] at H; exact H
              clear H
              have H := H1
              clear H1
              exact absurd H (by simp)

end Go.Proofs.Ytdpekjffjobabaa.PAll
