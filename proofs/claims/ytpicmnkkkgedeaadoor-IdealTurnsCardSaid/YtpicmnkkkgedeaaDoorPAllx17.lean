/- The Go functions that the laws reach, as Lean functions, and that each call comes to what its function says. Written by a program of this session (a turned copy of the kit's print). No condition beyond those that each theorem states. -/
import Derived.Test.YtpicmnkkkgedeaaDoorPAllx0
import Derived.Test.YtpicmnkkkgedeaaDoorPAllx3
import Derived.Test.YtpicmnkkkgedeaaDoorPAllx10
import Derived.Test.YtpicmnkkkgedeaaDoorPAllx11
import Derived.Test.YtpicmnkkkgedeaaDoorPAllx15
namespace Go.Proofs.YtpicmnkkkgedeaaDoor.PAll
open Go.RowKit Go.Proofs.YtpicmnkkkgedeaaDoorW.PrintWords Go.Proofs.YtpicmnkkkgedeaaDoorW.PrintLast Go.Proofs.YtpicmnkkkgedeaaDoorW.PrintMore
attribute [local go_sem] max2_int min2_int max_two min_two max_three min_three max_four min_four   -- for this text's walks alone
set_option linter.unusedVariables false
set_option linter.unusedSimpArgs false

theorem offertorylaw25_IdealTurns.keepB {W0 W w1 : World} {g : Nat} {o : Obj} (h : Aside0 (W0.heap[g]? = some o)) (hb : Below W.heap.size W w1) (hs : W0.heap[g]? = some o → W.heap[g]? = some o := by intro h_; (with_reducible repeat (first | refine blk_drewN ?_ _ | refine blk_drew ?_ | refine blk_alloc ?_ _)); exact h_) : Aside0 (w1.heap[g]? = some o) := ⟨(hb.block g (blk_lt (hs h.out))).trans (hs h.out)⟩
theorem offertorylaw25_IdealTurns.neL {W0 W : World} {g gb : Nat} {o : Obj} (h : Aside0 (W0.heap[g]? = some o)) (hg : gb = W.heap.size) (hs : W0.heap[g]? = some o → W.heap[g]? = some o := by intro h_; (with_reducible repeat (first | refine blk_drewN ?_ _ | refine blk_drew ?_ | refine blk_alloc ?_ _)); exact h_) : Aside0 (g ≠ gb) := ⟨by rw [hg]; exact Nat.ne_of_lt (blk_lt (hs h.out))⟩
theorem offertorylaw25_IdealTurns.neG {W0 W : World} {g gb : Nat} {o : Obj} (h : Aside0 (W0.heap[g]? = some o)) (hg : gb = W.heap.size) (hs : W0.heap[g]? = some o → W.heap[g]? = some o := by intro h_; (with_reducible repeat (first | refine blk_drewN ?_ _ | refine blk_drew ?_ | refine blk_alloc ?_ _)); exact h_) : Aside0 (gb ≠ g) := ⟨by rw [hg]; exact Nat.ne_of_gt (blk_lt (hs h.out))⟩
/-! ### offertorylaw25_IdealTurns: function 6 -/
def offertorylaw25_IdealTurns.j0 : Nat → List (List Int) → List (List Int) → Int → Int → Bool → List (List Int) → List (List (List Int)) → List (List Int) → List (List (List Int)) → List (List Int) → List (List (List Int)) → Option (Bool)
 | 0, _, _, _, _, _, _, _, _, _, _, _ => none
 | k + 1, x0, x1, x4, x5, x33, x310000, x310001, x311000, x311001, x319000, x319001 => if x33 = true then ((offertorylaw25_awake.f).bind fun t320 => (some t320)) else ((ideal_Turn.f k x1 x0 x319000 x319001 x4 x5).bind fun bt321 => ((ideal_Turn.f k x0 x1 x311000 x311001 x4 x5).bind fun bt329 => (if bt321.2.2 = 0 then ((ideal_Alike.f k bt321.1 bt321.2.1 x310000 x310001).bind fun t337 => (if t337 = true then (if bt329.2.2 = 0 then ((ideal_Alike.f k x319000 x319001 bt329.1 bt329.2.1).bind fun t338 => ((offertorylaw25_alike.f k x310000 x310001 x311000 x311001).bind fun t339 => (some (t338 == t339)))) else (some true)) else (none))) else (none))))
def offertorylaw25_IdealTurns.f (k : Nat) (l0 : List (List Int)) (l1 : List (List Int)) (l2_0 : List (List Int)) (l2_1 : List (List (List Int))) (l3_0 : List (List Int)) (l3_1 : List (List (List Int))) (a4 : Int) (a5 : Int) : Option (Bool) := (ideal_Turn.f k l0 l1 l2_0 l2_1 a4 a5).bind fun bt311 => ((offertorylaw25_awake.f).bind fun t319 => (if t319 = true then (offertorylaw25_IdealTurns.j0 k l0 l1 a4 a5 (bt311.2.2 != 0) l2_0 l2_1 l3_0 l3_1 bt311.1 bt311.2.1) else (offertorylaw25_IdealTurns.j0 k l0 l1 a4 a5 true l2_0 l2_1 l3_0 l3_1 bt311.1 bt311.2.1)))
theorem offertorylaw25_IdealTurns.mono_l : ∀ k, (∀ y0 y1 y2 y3 y4 y5 y6 y7 y8 y9 y10, LeO (offertorylaw25_IdealTurns.j0 k y0 y1 y2 y3 y4 y5 y6 y7 y8 y9 y10) (offertorylaw25_IdealTurns.j0 (k + 1) y0 y1 y2 y3 y4 y5 y6 y7 y8 y9 y10))
 | 0 => fun _ _ _ _ _ _ _ _ _ _ _ r h => by simp [offertorylaw25_IdealTurns.j0] at h
 | k + 1 => by
  have ih0 := offertorylaw25_IdealTurns.mono_l k
  ·
   intro y0 y1 y2 y3 y4 y5 y6 y7 y8 y9 y10
   unfold offertorylaw25_IdealTurns.j0
   repeat' first
   | (with_reducible exact ih0 _ _ _ _ _ _ _ _ _ _ _)
   | (with_reducible exact ideal_Alike.mono _ _ _ _ _)
   | (with_reducible exact ideal_Turn.mono _ _ _ _ _ _ _)
   | (with_reducible exact offertorylaw25_alike.mono _ _ _ _ _)
   | (with_reducible exact LeO.refl _)
   | (with_reducible exact LeO.none _)
   | (with_reducible refine LeO.ite ?_ ?_)
   | (with_reducible refine LeO.bind ?_ (fun _ => ?_))
   | exact ih0 _ _ _ _ _ _ _ _ _ _ _
   | exact ideal_Alike.mono _ _ _ _ _
   | exact ideal_Turn.mono _ _ _ _ _ _ _
   | exact offertorylaw25_alike.mono _ _ _ _ _
   | exact LeO.none _
   | refine LeO.ite ?_ ?_
   | refine LeO.bind ?_ (fun _ => ?_)
theorem offertorylaw25_IdealTurns.mono : ∀ a0 a1 a2 a3 a4 a5 a6 a7 k, LeO (offertorylaw25_IdealTurns.f k a0 a1 a2 a3 a4 a5 a6 a7) (offertorylaw25_IdealTurns.f (k + 1) a0 a1 a2 a3 a4 a5 a6 a7) := by
 intro a0 a1 a2 a3 a4 a5 a6 a7 k
 have ih0 := offertorylaw25_IdealTurns.mono_l k
 unfold offertorylaw25_IdealTurns.f
 repeat' first
   | (with_reducible exact ih0 _ _ _ _ _ _ _ _ _ _ _)
   | (with_reducible exact ideal_Alike.mono _ _ _ _ _)
   | (with_reducible exact ideal_Turn.mono _ _ _ _ _ _ _)
   | (with_reducible exact offertorylaw25_alike.mono _ _ _ _ _)
   | (with_reducible exact LeO.refl _)
   | (with_reducible exact LeO.none _)
   | (with_reducible refine LeO.ite ?_ ?_)
   | (with_reducible refine LeO.bind ?_ (fun _ => ?_))
   | exact ih0 _ _ _ _ _ _ _ _ _ _ _
   | exact ideal_Alike.mono _ _ _ _ _
   | exact ideal_Turn.mono _ _ _ _ _ _ _
   | exact offertorylaw25_alike.mono _ _ _ _ _
   | exact LeO.none _
   | refine LeO.ite ?_ ?_
   | refine LeO.bind ?_ (fun _ => ?_)
def offertorylaw25_IdealTurns.T6 : Bool × List (List Nat × List Nat) := (true, [([], []), ([0], [0]), ([1], [1]), ([2], [2]), ([2], [2]), ([3, 4, 2, 2], [2, 3, 4]), ([2, 5], [2, 5]), ([6, 5], [6]), ([7], [7]), ([8, 7], [7, 8]), ([9, 7, 7], [7, 9]), ([10], [10]), ([10], [10]), ([11, 12, 10, 10], [10, 11, 12]), ([10], [10]), ([10], [10]), ([14, 15, 13, 10], [10, 14, 15]), ([13, 16, 10], [10, 13, 16]), ([10, 17, 7], [7, 10, 17]), ([7, 18], [7, 18]), ([19, 16, 0, 1, 2, 3, 4, 5, 6, 7, 8, 9, 10, 11, 12, 13, 14, 15, 16, 17, 18, 19], [19])])
def offertorylaw25_IdealTurns.B6 : List Nat := [0, 1, 3, 7, 7, 31, 63, 127, 255, 511, 1023, 2047, 2047, 8191, 2047, 2047, 65535, 131071, 262143, 524287, 1048575]
theorem offertorylaw25_IdealTurns.tab6 : rtab .any (opsOf Tryd.f6 6) = offertorylaw25_IdealTurns.T6 := by kernel_rfl
theorem offertorylaw25_IdealTurns.bits6 : waitsOk offertorylaw25_IdealTurns.T6.2 offertorylaw25_IdealTurns.B6 = true := by kernel_rfl
set_option maxHeartbeats 8000000 in
set_option maxRecDepth 100000 in
theorem offertorylaw25_IdealTurns.calls (k : Nat) (A0 : Option Addr) (c0 : Nat) (l0 : List (List Int)) (A1 : Option Addr) (c1 : Nat) (l1 : List (List Int)) (A2_0 : Option Addr) (c2_0 : Nat) (l2_0 : List (List Int)) (A2_1 : Option Addr) (c2_1 : Nat) (l2_1 : List (List (List Int))) (A3_0 : Option Addr) (c3_0 : Nat) (l3_0 : List (List Int)) (A3_1 : Option Addr) (c3_1 : Nat) (l3_1 : List (List (List Int))) (a4 : Int) (a5 : Int) (r : Bool) (w : World) (hr0 : Kd.C (Kd.slice 37 (Kd.int .u32)) w A0 l0.length l0) (hc0 : l0.length ≤ c0) (hr1 : Kd.C (Kd.slice 37 (Kd.int .u32)) w A1 l1.length l1) (hc1 : l1.length ≤ c1) (hr2_0 : Kd.C (Kd.slice 37 (Kd.int .u32)) w A2_0 l2_0.length l2_0) (hc2_0 : l2_0.length ≤ c2_0) (hr2_1 : Kd.C (Kd.slice 35 (Kd.slice 37 (Kd.int .u32))) w A2_1 l2_1.length l2_1) (hc2_1 : l2_1.length ≤ c2_1) (hr3_0 : Kd.C (Kd.slice 37 (Kd.int .u32)) w A3_0 l3_0.length l3_0) (hc3_0 : l3_0.length ≤ c3_0) (hr3_1 : Kd.C (Kd.slice 35 (Kd.slice 37 (Kd.int .u32))) w A3_1 l3_1.length l3_1) (hc3_1 : l3_1.length ≤ c3_1) (hT : Tab w) (h : offertorylaw25_IdealTurns.f k l0 l1 l2_0 l2_1 l3_0 l3_1 a4 a5 = some r) :
  Calls Tryd.prog 6 #[.slice A0 l0.length c0, .slice A1 l1.length c1, .agg #[.slice A2_0 l2_0.length c2_0, .slice A2_1 l2_1.length c2_1], .agg #[.slice A3_0 l3_0.length c3_0, .slice A3_1 l3_1.length c3_1], .int .u64 a4, .int .u64 a5] w fun e w' => e = .returned (.bool r) ∧ Below w.heap.size w w' := by
 have hu25 := Tryd.underlying25
 have HR0 := Aside0.mk hr0
 have HC0 := Aside0.mk hc0
 clear hr0 hc0
 have HR1 := Aside0.mk hr1
 have HC1 := Aside0.mk hc1
 clear hr1 hc1
 have HR2_0 := Aside0.mk hr2_0
 have HC2_0 := Aside0.mk hc2_0
 clear hr2_0 hc2_0
 have HR2_1 := Aside0.mk hr2_1
 have HC2_1 := Aside0.mk hc2_1
 clear hr2_1 hc2_1
 have HR3_0 := Aside0.mk hr3_0
 have HC3_0 := Aside0.mk hc3_0
 clear hr3_0 hc3_0
 have HR3_1 := Aside0.mk hr3_1
 have HC3_1 := Aside0.mk hc3_1
 clear hr3_1 hc3_1
 have HTab := Aside0.mk hT
 clear hT
 have HB := Aside0.mk (Below.refl w.heap.size w)
 have H : ((ideal_Turn.f k l0 l1 l2_0 l2_1 a4 a5).bind fun bt311 => ((offertorylaw25_awake.f).bind fun t319 => (if t319 = true then (offertorylaw25_IdealTurns.j0 k l0 l1 a4 a5 (bt311.2.2 != 0) l2_0 l2_1 l3_0 l3_1 bt311.1 bt311.2.1) else (offertorylaw25_IdealTurns.j0 k l0 l1 a4 a5 true l2_0 l2_1 l3_0 l3_1 bt311.1 bt311.2.1)))) = some r := h
 clear h
 replace H := Option.bind_eq_some_iff.mp H
 obtain ⟨⟨t311, t314, t317⟩, A70, H⟩ := H
 replace H : ((offertorylaw25_awake.f).bind fun t319 => (if t319 = true then (offertorylaw25_IdealTurns.j0 k l0 l1 a4 a5 (t317 != 0) l2_0 l2_1 l3_0 l3_1 t311 t314) else (offertorylaw25_IdealTurns.j0 k l0 l1 a4 a5 true l2_0 l2_1 l3_0 l3_1 t311 t314))) = some r := H
 have A7 := Aside0.mk A70
 clear A70
 have HC8 := Aside0.mk H
 clear H
 go_enter Tryd.func6, Tryd.ntmps6
 go_upto_region 2 with (first | ((with_reducible refine gate_dst (N := 8) rfl ?_); refine box_event ?hg (N := 8) ?hd (cs := #[.slice A2_0 l2_0.length c2_0, .slice A2_1 l2_1.length c2_1]) (t := 25) ?hr ?_; (case hd => rfl); (case hg => rfl); (case hr => first | (go_simp; done) | (go_simp; rfl)); intro gb309 hg w9 hbox hb; have n0_ := Aside0.mk (below_step (by repeat (first | (with_reducible first | exact HB.out | apply below_alloc | apply pw_below_drewN | apply below_drew1) | exact HB.out)) hb); have n1_ := Aside0.mk (hbox); have n2_ := Aside0.mk ((by rw [hg]; exact (below_size (by repeat (first | (with_reducible first | exact HB.out | apply below_alloc | apply pw_below_drewN | apply below_drew1) | exact HB.out))) : w.heap.size ≤ gb309)); have n3_ := Aside0.mk ((by rw [hg]; exact (below_size (by repeat (first | (with_reducible first | exact HB.out | apply below_alloc | apply pw_below_drewN | apply below_drew1) | exact HB.out))) : w.heap.size ≤ gb309)); clear HB; have HB := n0_; have BK309 := n1_; have GW309 := n2_; have GE309 := n3_; clear n0_ n1_ n2_ n3_; clear hb hbox hg) | ((with_reducible refine gate_dst (N := 9) rfl ?_); refine box_event ?hg (N := 9) ?hd (cs := #[.slice A3_0 l3_0.length c3_0, .slice A3_1 l3_1.length c3_1]) (t := 25) ?hr ?_; (case hd => rfl); (case hg => rfl); (case hr => first | (go_simp; done) | (go_simp; rfl)); intro gb310 hg w10 hbox hb; have n0_ := offertorylaw25_IdealTurns.keepB BK309 hb; have n1_ := Aside0.mk (below_step (by repeat (first | (with_reducible first | exact HB.out | apply below_alloc | apply pw_below_drewN | apply below_drew1 | refine below_set ?_ GE309.out) | exact HB.out)) hb); have n2_ := Aside0.mk (hbox); have n3_ := Aside0.mk ((by rw [hg]; exact (below_size (by repeat (first | (with_reducible first | exact HB.out | apply below_alloc | apply pw_below_drewN | apply below_drew1 | refine below_set ?_ GE309.out) | exact HB.out))) : w.heap.size ≤ gb310)); have n4_ := Aside0.mk ((by rw [hg]; exact (below_size (by repeat (first | (with_reducible first | exact HB.out | apply below_alloc | apply pw_below_drewN | apply below_drew1 | refine below_set ?_ GE309.out) | exact HB.out))) : w.heap.size ≤ gb310)); have n5_ := offertorylaw25_IdealTurns.neL BK309 hg; have n6_ := offertorylaw25_IdealTurns.neG BK309 hg; clear BK309; clear HB; have BK309 := n0_; have HB := n1_; have BK310 := n2_; have GW310 := n3_; have GE310 := n4_; have NB309_310 := n5_; have NB310_309 := n6_; clear n0_ n1_ n2_ n3_ n4_ n5_ n6_; clear hb hbox hg; have hnb11 := NB309_310.out; have hnc11 := NB310_309.out; have hcz12_0 : w10.cell? ⟨gb309, 0, none⟩ = some (.slice A2_0 l2_0.length c2_0) := (blk_cell BK309.out 0).trans rfl; have hcz12_1 : w10.cell? ⟨gb309, 1, none⟩ = some (.slice A2_1 l2_1.length c2_1) := (blk_cell BK309.out 1).trans rfl; have hfz12_0 := blk_frozen BK309.out 0; have hfz12_1 := blk_frozen BK309.out 1) | ((with_reducible refine gate_callee (f := 16) rfl ?_); refine goesL_ (some 25) rfl rfl Tryd.func16 (by kernel_rfl) rfl #[.slice A0 l0.length c0, .slice A1 l1.length c1, .agg #[.slice A2_0 l2_0.length c2_0, .slice A2_1 l2_1.length c2_1], .int .u64 a4, .int .u64 a5] rfl (by (try simp only [List.map_toArray, List.map_cons, List.map_nil]); first | done | rfl | (simp only [List.length_drop, List.length_take]; rfl)) ?_; (with_reducible refine (ideal_Turn.calls k _ _ l0 _ _ l1 _ _ l2_0 _ _ l2_1 a4 a5 t311 t314 t317 _ ?side1 ?side2 ?side3 ?side4 ?side5 ?side6 ?side7 ?side8 A7.out).mono ?_); (case side1 => repeat (first | exact (Kd.C_below HR0.out HB.out) | (with_reducible refine Kd.C_alloc ?_ _) | (with_reducible refine Kd.C_drewN ?_ _) | (with_reducible refine Kd.C_drew ?_))); (case side2 => exact HC0.out); (case side3 => repeat (first | exact (Kd.C_below HR1.out HB.out) | (with_reducible refine Kd.C_alloc ?_ _) | (with_reducible refine Kd.C_drewN ?_ _) | (with_reducible refine Kd.C_drew ?_))); (case side4 => exact HC1.out); (case side5 => repeat (first | exact (Kd.C_below HR2_0.out HB.out) | (with_reducible refine Kd.C_alloc ?_ _) | (with_reducible refine Kd.C_drewN ?_ _) | (with_reducible refine Kd.C_drew ?_))); (case side6 => exact HC2_0.out); (case side7 => repeat (first | exact (Kd.C_below HR2_1.out HB.out) | (with_reducible refine Kd.C_alloc ?_ _) | (with_reducible refine Kd.C_drewN ?_ _) | (with_reducible refine Kd.C_drew ?_))); (case side8 => exact HC2_1.out); rintro e w13 ⟨v312, v315, rfl, ho0, ho1, hb⟩; refine ⟨_, rfl, ?_⟩; have n0_ := Aside0.mk (Kd.R_lower ho0 (below_size (by repeat (first | (with_reducible first | exact HB.out | apply below_alloc | apply pw_below_drewN | apply below_drew1 | refine below_set ?_ GE309.out | refine below_set ?_ GE310.out) | exact HB.out)))); have n1_ := Aside0.mk (Kd.R_lower ho1 (below_size (by repeat (first | (with_reducible first | exact HB.out | apply below_alloc | apply pw_below_drewN | apply below_drew1 | refine below_set ?_ GE309.out | refine below_set ?_ GE310.out) | exact HB.out)))); have n2_ := offertorylaw25_IdealTurns.keepB BK309 hb; have n3_ := offertorylaw25_IdealTurns.keepB BK310 hb; have n4_ := Aside0.mk (below_step (by repeat (first | (with_reducible first | exact HB.out | apply below_alloc | apply pw_below_drewN | apply below_drew1 | refine below_set ?_ GE309.out | refine below_set ?_ GE310.out) | exact HB.out)) hb); clear BK309; clear BK310; clear HB; have HO313 := n0_; have HO316 := n1_; have BK309 := n2_; have BK310 := n3_; have HB := n4_; clear n0_ n1_ n2_ n3_ n4_; (try clear hb); (try clear hb2); (try clear hk); (try clear hi); (try clear ho0); (try clear ho1)) | ((with_reducible refine gate_dst (N := 13) rfl ?_); refine box_event ?hg (N := 13) ?hd (cs := #[.slice none 0 0, .slice none 0 0]) (t := 25) ?hr ?_; (case hd => rfl); (case hg => rfl); (case hr => first | (go_simp; done) | (go_simp; rfl)); intro gb318 hg w14 hbox hb; have n0_ := Aside0.mk (Kd.R_below (by (with_reducible repeat (first | apply Kd.R_alloc | apply Kd.R_drewN | apply Kd.R_drew)); exact HO313.out) hb); have n1_ := Aside0.mk (Kd.R_below (by (with_reducible repeat (first | apply Kd.R_alloc | apply Kd.R_drewN | apply Kd.R_drew)); exact HO316.out) hb); have n2_ := offertorylaw25_IdealTurns.keepB BK309 hb; have n3_ := offertorylaw25_IdealTurns.keepB BK310 hb; have n4_ := Aside0.mk (below_step (by repeat (first | (with_reducible first | exact HB.out | apply below_alloc | apply pw_below_drewN | apply below_drew1 | refine below_set ?_ GE309.out | refine below_set ?_ GE310.out) | exact HB.out)) hb); have n5_ := Aside0.mk (hbox); have n6_ := Aside0.mk ((by rw [hg]; exact (below_size (by repeat (first | (with_reducible first | exact HB.out | apply below_alloc | apply pw_below_drewN | apply below_drew1 | refine below_set ?_ GE309.out | refine below_set ?_ GE310.out) | exact HB.out))) : w.heap.size ≤ gb318)); have n7_ := Aside0.mk ((by rw [hg]; exact (below_size (by repeat (first | (with_reducible first | exact HB.out | apply below_alloc | apply pw_below_drewN | apply below_drew1 | refine below_set ?_ GE309.out | refine below_set ?_ GE310.out) | exact HB.out))) : w.heap.size ≤ gb318)); have n8_ := offertorylaw25_IdealTurns.neL BK309 hg; have n9_ := offertorylaw25_IdealTurns.neG BK309 hg; have n10_ := offertorylaw25_IdealTurns.neL BK310 hg; have n11_ := offertorylaw25_IdealTurns.neG BK310 hg; clear HO313; clear HO316; clear BK309; clear BK310; clear HB; have HO313 := n0_; have HO316 := n1_; have BK309 := n2_; have BK310 := n3_; have HB := n4_; have BK318 := n5_; have GW318 := n6_; have GE318 := n7_; have NB309_318 := n8_; have NB318_309 := n9_; have NB310_318 := n10_; have NB318_310 := n11_; clear n0_ n1_ n2_ n3_ n4_ n5_ n6_ n7_ n8_ n9_ n10_ n11_; clear hb hbox hg; obtain ⟨Ao15, co15, eo15⟩ := Kd.R_slice HO313.out; subst eo15; have hnb16 := NB318_309.out; have hnc16 := NB309_318.out; have hnb17 := NB318_310.out; have hnc17 := NB310_318.out; have hcz18_0 : w14.cell? ⟨gb318, 0, none⟩ = some (.slice none 0 0) := (blk_cell BK318.out 0).trans rfl; have hcz18_1 : w14.cell? ⟨gb318, 1, none⟩ = some (.slice none 0 0) := (blk_cell BK318.out 1).trans rfl; have hfz18_0 := blk_frozen BK318.out 0; have hfz18_1 := blk_frozen BK318.out 1; obtain ⟨Ao19, co19, eo19⟩ := Kd.R_slice HO316.out; subst eo19))
 (try simp only [Act.put, List.setIfInBounds_toArray, List.set_cons_zero, List.set_cons_succ])
 go_cut [33] (fun v33 wc => ∃ (kq : Nat) (x33_7 : Bool), v33 = .bool x33_7 ∧ Aside0 (offertorylaw25_IdealTurns.j0 kq l0 l1 a4 a5 x33_7 l2_0 l2_1 l3_0 l3_1 t311 t314 = some r) ∧ Aside0 (kq ≤ k) ∧ Aside0 (Kd.R (Kd.slice 37 (Kd.int .u32)) 35 wc w.heap.size (fun _ => True) (.slice Ao15 t311.length co15) t311) ∧ Aside0 (Kd.R (Kd.slice 35 (Kd.slice 37 (Kd.int .u32))) 22 wc w.heap.size (fun k_ => some k_ ≠ ((.slice Ao15 t311.length co15) : Value).ownBlock) (.slice Ao19 t314.length co19) t314) ∧ Aside0 (wc.heap[gb309]? = some (.cells #[(.slice A2_0 l2_0.length c2_0), (.slice A2_1 l2_1.length c2_1)] 25 (0, 0))) ∧ Aside0 (wc.heap[gb310]? = some (.cells #[(.slice A3_0 l3_0.length c3_0), (.slice A3_1 l3_1.length c3_1)] 25 (0, 0))) ∧ Aside0 (wc.heap[gb318]? = some (.cells #[(.slice Ao15 t311.length co15), (.slice Ao19 t314.length co19)] 25 (0, 0))) ∧ Aside0 (Below w.heap.size w wc))
 case first =>
  have H := HC8.out
  clear HC8
  replace H := Option.bind_eq_some_iff.mp H
  obtain ⟨t319, A200, H⟩ := H
  replace H : (if t319 = true then (offertorylaw25_IdealTurns.j0 k l0 l1 a4 a5 (t317 != 0) l2_0 l2_1 l3_0 l3_1 t311 t314) else (offertorylaw25_IdealTurns.j0 k l0 l1 a4 a5 true l2_0 l2_1 l3_0 l3_1 t311 t314)) = some r := H
  have A20 := Aside0.mk A200
  clear A200
  by_cases c21 : t319 = true
  ·
   subst c21
   have H1 : (offertorylaw25_IdealTurns.j0 k l0 l1 a4 a5 (t317 != 0) l2_0 l2_1 l3_0 l3_1 t311 t314) = some r := by rw [if_pos rfl] at H; exact H
   clear H
   have H := H1
   clear H1
   have H' := Aside0.mk H
   clear H
   go_wp2_with (first | ((with_reducible refine gate_callee (f := 9) rfl ?_); refine goesL_ (some 28) rfl rfl Tryd.func9 (by kernel_rfl) rfl #[] rfl (by (try simp only [List.map_toArray, List.map_cons, List.map_nil]); first | done | rfl | (simp only [List.length_drop, List.length_take]; rfl)) ?_; (with_reducible refine (offertorylaw25_awake.calls  true _ (HTab.out.step (by repeat (first | (with_reducible first | exact HB.out | apply below_alloc | apply pw_below_drewN | apply below_drew1 | refine below_set ?_ (Aside0.out (by assumption))) | exact HB.out | refine below_set ?_ (Aside0.out (by assumption))))) A20.out).mono ?_); rintro e w22 ⟨rfl, hb⟩; refine ⟨_, rfl, ?_⟩; have n0_ := Aside0.mk (Kd.R_below (by (with_reducible repeat (first | apply Kd.R_alloc | apply Kd.R_drewN | apply Kd.R_drew)); exact (Kd.R_mono (Kd.R_far (p := ⟨gb318, 1, none⟩) (Kd.R_far (p := ⟨gb318, 0, none⟩) (Kd.R_types HO313.out BK318.out (by decide)) (fun _ hk => hk.2) (.slice Ao15 t311.length co15)) (fun _ hk => hk.2) (.slice Ao19 t314.length co19)) (fun _ h_ => h_.1))) hb); have n1_ := Aside0.mk (Kd.R_below (by (with_reducible repeat (first | apply Kd.R_alloc | apply Kd.R_drewN | apply Kd.R_drew)); exact (Kd.R_mono (Kd.R_far (p := ⟨gb318, 1, none⟩) (Kd.R_far (p := ⟨gb318, 0, none⟩) (Kd.R_types HO316.out BK318.out (by decide)) (fun _ hk => hk.2) (.slice Ao15 t311.length co15)) (fun _ hk => hk.2) (.slice Ao19 t314.length co19)) (fun _ h_ => h_.1))) hb); have n2_ := Aside0.mk (blk_below (g := gb309) (o := .cells #[.slice A2_0 l2_0.length c2_0, .slice A2_1 l2_1.length c2_1] 25 (0, 0)) (by (repeat (first | (with_reducible first | refine blk_drewN ?_ _ | refine blk_drew ?_ | refine blk_alloc ?_ _) | refine blk_far ?_ NB309_318.out _)); (with_reducible repeat (first | refine blk_drewN ?_ _ | refine blk_drew ?_ | refine blk_alloc ?_ _)); exact BK309.out) hb); have n3_ := Aside0.mk (blk_below (g := gb310) (o := .cells #[.slice A3_0 l3_0.length c3_0, .slice A3_1 l3_1.length c3_1] 25 (0, 0)) (by (repeat (first | (with_reducible first | refine blk_drewN ?_ _ | refine blk_drew ?_ | refine blk_alloc ?_ _) | refine blk_far ?_ NB310_318.out _)); (with_reducible repeat (first | refine blk_drewN ?_ _ | refine blk_drew ?_ | refine blk_alloc ?_ _)); exact BK310.out) hb); have n4_ := Aside0.mk (blk_below (g := gb318) (o := .cells #[.slice Ao15 t311.length co15, .slice Ao19 t314.length co19] 25 (0, 0)) (by (with_reducible repeat (first | refine blk_drewN ?_ _ | refine blk_drew ?_ | refine blk_alloc ?_ _)); refine blk_put (cs := #[.slice Ao15 t311.length co15, .slice none 0 0]) ?_ 1 _ rfl; (with_reducible repeat (first | refine blk_drewN ?_ _ | refine blk_drew ?_ | refine blk_alloc ?_ _)); refine blk_put (cs := #[.slice none 0 0, .slice none 0 0]) ?_ 0 _ rfl; (with_reducible repeat (first | refine blk_drewN ?_ _ | refine blk_drew ?_ | refine blk_alloc ?_ _)); exact BK318.out) hb); have n5_ := Aside0.mk (below_step (by repeat (first | (with_reducible first | exact HB.out | apply below_alloc | apply pw_below_drewN | apply below_drew1 | refine below_set ?_ GE309.out | refine below_set ?_ GE310.out | refine below_set ?_ GE318.out) | exact HB.out)) hb); clear HO313; clear HO316; clear BK309; clear BK310; clear BK318; clear HB; have HO313 := n0_; have HO316 := n1_; have BK309 := n2_; have BK310 := n3_; have BK318 := n4_; have HB := n5_; clear n0_ n1_ n2_ n3_ n4_ n5_; (try clear hb); (try clear hb2); (try clear hk); (try clear hi)))
   go_meet
   case rel => exact ⟨_, ((t317 != 0)), (by first | rfl | (simp; done) | (simp [*]; done)), H', ⟨by first | omega | exact Nat.le_refl _⟩, ⟨by (with_reducible repeat (first | apply Kd.R_alloc | apply Kd.R_drewN | apply Kd.R_drew)); exact HO313.out⟩, ⟨by (with_reducible repeat (first | apply Kd.R_alloc | apply Kd.R_drewN | apply Kd.R_drew)); exact HO316.out⟩, ⟨by (with_reducible repeat (first | refine blk_drewN ?_ _ | refine blk_drew ?_ | refine blk_alloc ?_ _)); exact BK309.out⟩, ⟨by (with_reducible repeat (first | refine blk_drewN ?_ _ | refine blk_drew ?_ | refine blk_alloc ?_ _)); exact BK310.out⟩, ⟨by (with_reducible repeat (first | refine blk_drewN ?_ _ | refine blk_drew ?_ | refine blk_alloc ?_ _)); exact BK318.out⟩, ⟨by repeat (first | (with_reducible first | exact HB.out | apply below_alloc | apply pw_below_drewN | apply below_drew1 | refine below_set ?_ GE309.out | refine below_set ?_ GE310.out | refine below_set ?_ GE318.out) | exact HB.out)⟩⟩
  ·
   replace c21 := Bool.eq_false_iff.mpr c21
   subst c21
   have H1 : (offertorylaw25_IdealTurns.j0 k l0 l1 a4 a5 true l2_0 l2_1 l3_0 l3_1 t311 t314) = some r := by rw [if_neg (show ¬ (false = true) by decide)] at H; exact H
   clear H
   have H := H1
   clear H1
   have H' := Aside0.mk H
   clear H
   go_wp2_with (first | ((with_reducible refine gate_callee (f := 9) rfl ?_); refine goesL_ (some 28) rfl rfl Tryd.func9 (by kernel_rfl) rfl #[] rfl (by (try simp only [List.map_toArray, List.map_cons, List.map_nil]); first | done | rfl | (simp only [List.length_drop, List.length_take]; rfl)) ?_; (with_reducible refine (offertorylaw25_awake.calls  false _ (HTab.out.step (by repeat (first | (with_reducible first | exact HB.out | apply below_alloc | apply pw_below_drewN | apply below_drew1 | refine below_set ?_ (Aside0.out (by assumption))) | exact HB.out | refine below_set ?_ (Aside0.out (by assumption))))) A20.out).mono ?_); rintro e w23 ⟨rfl, hb⟩; refine ⟨_, rfl, ?_⟩; have n0_ := Aside0.mk (Kd.R_below (by (with_reducible repeat (first | apply Kd.R_alloc | apply Kd.R_drewN | apply Kd.R_drew)); exact (Kd.R_mono (Kd.R_far (p := ⟨gb318, 1, none⟩) (Kd.R_far (p := ⟨gb318, 0, none⟩) (Kd.R_types HO313.out BK318.out (by decide)) (fun _ hk => hk.2) (.slice Ao15 t311.length co15)) (fun _ hk => hk.2) (.slice Ao19 t314.length co19)) (fun _ h_ => h_.1))) hb); have n1_ := Aside0.mk (Kd.R_below (by (with_reducible repeat (first | apply Kd.R_alloc | apply Kd.R_drewN | apply Kd.R_drew)); exact (Kd.R_mono (Kd.R_far (p := ⟨gb318, 1, none⟩) (Kd.R_far (p := ⟨gb318, 0, none⟩) (Kd.R_types HO316.out BK318.out (by decide)) (fun _ hk => hk.2) (.slice Ao15 t311.length co15)) (fun _ hk => hk.2) (.slice Ao19 t314.length co19)) (fun _ h_ => h_.1))) hb); have n2_ := Aside0.mk (blk_below (g := gb309) (o := .cells #[.slice A2_0 l2_0.length c2_0, .slice A2_1 l2_1.length c2_1] 25 (0, 0)) (by (repeat (first | (with_reducible first | refine blk_drewN ?_ _ | refine blk_drew ?_ | refine blk_alloc ?_ _) | refine blk_far ?_ NB309_318.out _)); (with_reducible repeat (first | refine blk_drewN ?_ _ | refine blk_drew ?_ | refine blk_alloc ?_ _)); exact BK309.out) hb); have n3_ := Aside0.mk (blk_below (g := gb310) (o := .cells #[.slice A3_0 l3_0.length c3_0, .slice A3_1 l3_1.length c3_1] 25 (0, 0)) (by (repeat (first | (with_reducible first | refine blk_drewN ?_ _ | refine blk_drew ?_ | refine blk_alloc ?_ _) | refine blk_far ?_ NB310_318.out _)); (with_reducible repeat (first | refine blk_drewN ?_ _ | refine blk_drew ?_ | refine blk_alloc ?_ _)); exact BK310.out) hb); have n4_ := Aside0.mk (blk_below (g := gb318) (o := .cells #[.slice Ao15 t311.length co15, .slice Ao19 t314.length co19] 25 (0, 0)) (by (with_reducible repeat (first | refine blk_drewN ?_ _ | refine blk_drew ?_ | refine blk_alloc ?_ _)); refine blk_put (cs := #[.slice Ao15 t311.length co15, .slice none 0 0]) ?_ 1 _ rfl; (with_reducible repeat (first | refine blk_drewN ?_ _ | refine blk_drew ?_ | refine blk_alloc ?_ _)); refine blk_put (cs := #[.slice none 0 0, .slice none 0 0]) ?_ 0 _ rfl; (with_reducible repeat (first | refine blk_drewN ?_ _ | refine blk_drew ?_ | refine blk_alloc ?_ _)); exact BK318.out) hb); have n5_ := Aside0.mk (below_step (by repeat (first | (with_reducible first | exact HB.out | apply below_alloc | apply pw_below_drewN | apply below_drew1 | refine below_set ?_ GE309.out | refine below_set ?_ GE310.out | refine below_set ?_ GE318.out) | exact HB.out)) hb); clear HO313; clear HO316; clear BK309; clear BK310; clear BK318; clear HB; have HO313 := n0_; have HO316 := n1_; have BK309 := n2_; have BK310 := n3_; have BK318 := n4_; have HB := n5_; clear n0_ n1_ n2_ n3_ n4_ n5_; (try clear hb); (try clear hb2); (try clear hk); (try clear hi)))
   go_meet
   case rel => exact ⟨_, (true), (by first | rfl | (simp; done) | (simp [*]; done)), H', ⟨by first | omega | exact Nat.le_refl _⟩, ⟨by (with_reducible repeat (first | apply Kd.R_alloc | apply Kd.R_drewN | apply Kd.R_drew)); exact HO313.out⟩, ⟨by (with_reducible repeat (first | apply Kd.R_alloc | apply Kd.R_drewN | apply Kd.R_drew)); exact HO316.out⟩, ⟨by (with_reducible repeat (first | refine blk_drewN ?_ _ | refine blk_drew ?_ | refine blk_alloc ?_ _)); exact BK309.out⟩, ⟨by (with_reducible repeat (first | refine blk_drewN ?_ _ | refine blk_drew ?_ | refine blk_alloc ?_ _)); exact BK310.out⟩, ⟨by (with_reducible repeat (first | refine blk_drewN ?_ _ | refine blk_drew ?_ | refine blk_alloc ?_ _)); exact BK318.out⟩, ⟨by repeat (first | (with_reducible first | exact HB.out | apply below_alloc | apply pw_below_drewN | apply below_drew1 | refine below_set ?_ GE309.out | refine below_set ?_ GE310.out | refine below_set ?_ GE318.out) | exact HB.out)⟩⟩
 case rest =>
  clear HC8
  try clear c1
  try clear c2
  try clear p2
  try clear c3
  try clear c6
  try clear c9
  try clear c11
  try clear c16
  try clear c17
  try clear c21
  try clear hcz12_0
  try clear hcz12_1
  try clear hcz18_0
  try clear hcz18_1
  try clear hfz12_0
  try clear hfz12_1
  try clear hfz18_0
  try clear hfz18_1
  obtain ⟨kq, x33_7, rfl, HA, HJ7, HO_319000, HO_319001, BK309, BK310, BK318, HB⟩ := hcut
  cases kq with
  | zero => exact absurd HA.out (by simp [offertorylaw25_IdealTurns.j0])
  | succ kj7 =>
   have H := HA.out
   clear HA
   simp only [offertorylaw25_IdealTurns.j0] at H
   by_cases c24 : x33_7 = true
   ·
    subst c24
    have H1 : ((offertorylaw25_awake.f).bind fun t320 => (some t320)) = some r := by rw [if_pos rfl] at H; exact H
    clear H
    have H := H1
    clear H1
    replace H := Option.bind_eq_some_iff.mp H
    obtain ⟨t320, A250, H⟩ := H
    replace H : (some t320) = some r := H
    have A25 := Aside0.mk A250
    clear A250
    obtain rfl := Option.some.inj H
    go_wp2_with (first | ((with_reducible refine gate_callee (f := 9) rfl ?_); refine goesL_ (some 34) rfl rfl Tryd.func9 (by kernel_rfl) rfl #[] rfl (by (try simp only [List.map_toArray, List.map_cons, List.map_nil]); first | done | rfl | (simp only [List.length_drop, List.length_take]; rfl)) ?_; (with_reducible refine (offertorylaw25_awake.calls  t320 _ (HTab.out.step (by repeat (first | (with_reducible first | exact HB.out | apply below_alloc | apply pw_below_drewN | apply below_drew1 | refine below_set ?_ (Aside0.out (by assumption))) | exact HB.out | refine below_set ?_ (Aside0.out (by assumption))))) A25.out).mono ?_); rintro e w26 ⟨rfl, hb⟩; refine ⟨_, rfl, ?_⟩; have n0_ := Aside0.mk (Kd.R_below (by (with_reducible repeat (first | apply Kd.R_alloc | apply Kd.R_drewN | apply Kd.R_drew)); exact HO_319000.out) hb); have n1_ := Aside0.mk (Kd.R_below (by (with_reducible repeat (first | apply Kd.R_alloc | apply Kd.R_drewN | apply Kd.R_drew)); exact HO_319001.out) hb); have n2_ := offertorylaw25_IdealTurns.keepB BK309 hb; have n3_ := offertorylaw25_IdealTurns.keepB BK310 hb; have n4_ := offertorylaw25_IdealTurns.keepB BK318 hb; have n5_ := Aside0.mk (below_step (by repeat (first | (with_reducible first | exact HB.out | apply below_alloc | apply pw_below_drewN | apply below_drew1 | refine below_set ?_ GE309.out | refine below_set ?_ GE310.out | refine below_set ?_ GE318.out) | exact HB.out)) hb); clear HO_319000; clear HO_319001; clear BK309; clear BK310; clear BK318; clear HB; have HO_319000 := n0_; have HO_319001 := n1_; have BK309 := n2_; have BK310 := n3_; have BK318 := n4_; have HB := n5_; clear n0_ n1_ n2_ n3_ n4_ n5_; (try clear hb); (try clear hb2); (try clear hk); (try clear hi)))
    go_ret
    exact ⟨by first | rfl | (simp [errW_none, errW_some] <;> rfl) | (simp [*, errW_none, errW_some] <;> rfl), by repeat (first | (with_reducible first | exact HB.out | apply below_alloc | apply pw_below_drewN | apply below_drew1 | refine below_set ?_ GE309.out | refine below_set ?_ GE310.out | refine below_set ?_ GE318.out) | exact HB.out)⟩
   ·
    replace c24 := Bool.eq_false_iff.mpr c24
    subst c24
    have H1 : ((ideal_Turn.f kj7 l1 l0 t311 t314 a4 a5).bind fun bt321 => ((ideal_Turn.f kj7 l0 l1 l3_0 l3_1 a4 a5).bind fun bt329 => (if bt321.2.2 = 0 then ((ideal_Alike.f kj7 bt321.1 bt321.2.1 l2_0 l2_1).bind fun t337 => (if t337 = true then (if bt329.2.2 = 0 then ((ideal_Alike.f kj7 t311 t314 bt329.1 bt329.2.1).bind fun t338 => ((offertorylaw25_alike.f kj7 l2_0 l2_1 l3_0 l3_1).bind fun t339 => (some (t338 == t339)))) else (some true)) else (none))) else (none)))) = some r := by rw [if_neg (show ¬ (false = true) by decide)] at H; exact H
    clear H
    have H := H1
    clear H1
    replace H := Option.bind_eq_some_iff.mp H
    obtain ⟨⟨t321, t324, t327⟩, A270, H⟩ := H
    replace H : ((ideal_Turn.f kj7 l0 l1 l3_0 l3_1 a4 a5).bind fun bt329 => (if t327 = 0 then ((ideal_Alike.f kj7 t321 t324 l2_0 l2_1).bind fun t337 => (if t337 = true then (if bt329.2.2 = 0 then ((ideal_Alike.f kj7 t311 t314 bt329.1 bt329.2.1).bind fun t338 => ((offertorylaw25_alike.f kj7 l2_0 l2_1 l3_0 l3_1).bind fun t339 => (some (t338 == t339)))) else (some true)) else (none))) else (none))) = some r := H
    have A27 := Aside0.mk A270
    clear A270
    replace H := Option.bind_eq_some_iff.mp H
    obtain ⟨⟨t329, t332, t335⟩, A280, H⟩ := H
    replace H : (if t327 = 0 then ((ideal_Alike.f kj7 t321 t324 l2_0 l2_1).bind fun t337 => (if t337 = true then (if t335 = 0 then ((ideal_Alike.f kj7 t311 t314 t329 t332).bind fun t338 => ((offertorylaw25_alike.f kj7 l2_0 l2_1 l3_0 l3_1).bind fun t339 => (some (t338 == t339)))) else (some true)) else (none))) else (none)) = some r := H
    have A28 := Aside0.mk A280
    clear A280
    by_cases c29 : t327 = 0
    ·
     rw [if_pos c29] at H
     have c29b0 : (t327 == 0) = true := beq_iff_eq.mpr c29
     have c29b1 : (t327 != 0) = false := bne_eq_false_iff_eq.mpr c29
     clear c29
     replace H := Option.bind_eq_some_iff.mp H
     obtain ⟨t337, A300, H⟩ := H
     replace H : (if t337 = true then (if t335 = 0 then ((ideal_Alike.f kj7 t311 t314 t329 t332).bind fun t338 => ((offertorylaw25_alike.f kj7 l2_0 l2_1 l3_0 l3_1).bind fun t339 => (some (t338 == t339)))) else (some true)) else (none)) = some r := H
     have A30 := Aside0.mk A300
     clear A300
     by_cases c31 : t337 = true
     ·
      subst c31
      have H1 : (if t335 = 0 then ((ideal_Alike.f kj7 t311 t314 t329 t332).bind fun t338 => ((offertorylaw25_alike.f kj7 l2_0 l2_1 l3_0 l3_1).bind fun t339 => (some (t338 == t339)))) else (some true)) = some r := by rw [if_pos rfl] at H; exact H
      clear H
      have H := H1
      clear H1
      by_cases c32 : t335 = 0
      ·
       rw [if_pos c32] at H
       have c32b0 : (t335 == 0) = true := beq_iff_eq.mpr c32
       have c32b1 : (t335 != 0) = false := bne_eq_false_iff_eq.mpr c32
       clear c32
       replace H := Option.bind_eq_some_iff.mp H
       obtain ⟨t338, A330, H⟩ := H
       replace H : ((offertorylaw25_alike.f kj7 l2_0 l2_1 l3_0 l3_1).bind fun t339 => (some (t338 == t339))) = some r := H
       have A33 := Aside0.mk A330
       clear A330
       replace H := Option.bind_eq_some_iff.mp H
       obtain ⟨t339, A340, H⟩ := H
       replace H : (some (t338 == t339)) = some r := H
       have A34 := Aside0.mk A340
       clear A340
       obtain rfl := Option.some.inj H
       have hnb35 := NB318_309.out
       have hnc35 := NB309_318.out
       have hnb36 := NB318_310.out
       have hnc36 := NB310_318.out
       have hcz37_0 : wc.cell? ⟨gb318, 0, none⟩ = some (.slice Ao15 t311.length co15) := (blk_cell BK318.out 0).trans rfl
       have hcz37_1 : wc.cell? ⟨gb318, 1, none⟩ = some (.slice Ao19 t314.length co19) := (blk_cell BK318.out 1).trans rfl
       have hfz37_0 := blk_frozen BK318.out 0
       have hfz37_1 := blk_frozen BK318.out 1
       try go_wp2_with (first | ((with_reducible refine gate_callee (f := 16) rfl ?_); refine goesL_ (some 41) rfl rfl Tryd.func16 (by kernel_rfl) rfl #[.slice A1 l1.length c1, .slice A0 l0.length c0, .agg #[.slice Ao15 t311.length co15, .slice Ao19 t314.length co19], .int .u64 a4, .int .u64 a5] rfl (by (try simp only [List.map_toArray, List.map_cons, List.map_nil]); first | done | rfl | (simp only [List.length_drop, List.length_take]; rfl)) ?_; (with_reducible refine (ideal_Turn.calls kj7 _ _ l1 _ _ l0 _ _ t311 _ _ t314 a4 a5 t321 t324 t327 _ ?side1 ?side2 ?side3 ?side4 ?side5 ?side6 ?side7 ?side8 A27.out).mono ?_); (case side1 => repeat (first | exact (Kd.C_below HR1.out HB.out) | (with_reducible refine Kd.C_alloc ?_ _) | (with_reducible refine Kd.C_drewN ?_ _) | (with_reducible refine Kd.C_drew ?_))); (case side2 => exact HC1.out); (case side3 => repeat (first | exact (Kd.C_below HR0.out HB.out) | (with_reducible refine Kd.C_alloc ?_ _) | (with_reducible refine Kd.C_drewN ?_ _) | (with_reducible refine Kd.C_drew ?_))); (case side4 => exact HC0.out); (case side5 => repeat (first | exact (Kd.R_reads' HO_319000.out).2.2 | (with_reducible refine Kd.C_alloc ?_ _) | (with_reducible refine Kd.C_drewN ?_ _) | (with_reducible refine Kd.C_drew ?_))); (case side6 => exact (Kd.R_reads' HO_319000.out).2.1); (case side7 => repeat (first | exact (Kd.R_reads' HO_319001.out).2.2 | (with_reducible refine Kd.C_alloc ?_ _) | (with_reducible refine Kd.C_drewN ?_ _) | (with_reducible refine Kd.C_drew ?_))); (case side8 => exact (Kd.R_reads' HO_319001.out).2.1); rintro e w38 ⟨v322, v325, rfl, ho0, ho1, hb⟩; refine ⟨_, rfl, ?_⟩; have n0_ := Aside0.mk (Kd.R_elder' (by (with_reducible repeat (first | apply Kd.R_alloc | apply Kd.R_drewN | apply Kd.R_drew)); exact HO_319000.out) (Kd.R_base ho0) hb); have n1_ := Aside0.mk (Kd.R_mono (Kd.R_told (Kd.R_told (Kd.R_old (by (with_reducible repeat (first | apply Kd.R_alloc | apply Kd.R_drewN | apply Kd.R_drew)); exact HO_319001.out) hb) (Kd.R_base ho0)) (Kd.R_base ho1)) (fun _ h_ => h_.1)); have n2_ := Aside0.mk (Kd.R_lower (Kd.R_new' ho0 (Kd.R_lt (by (with_reducible repeat (first | apply Kd.R_alloc | apply Kd.R_drewN | apply Kd.R_drew)); exact HO_319000.out))) (below_size (by repeat (first | (with_reducible first | exact HB.out | apply below_alloc | apply pw_below_drewN | apply below_drew1 | refine below_set ?_ GE309.out | refine below_set ?_ GE310.out | refine below_set ?_ GE318.out) | exact HB.out)))); have n3_ := Aside0.mk (Kd.R_lower (Kd.R_new' (Kd.R_new' ho1 (Kd.R_lt (by (with_reducible repeat (first | apply Kd.R_alloc | apply Kd.R_drewN | apply Kd.R_drew)); exact HO_319000.out))) (Kd.R_lt (by (with_reducible repeat (first | apply Kd.R_alloc | apply Kd.R_drewN | apply Kd.R_drew)); exact HO_319001.out))) (below_size (by repeat (first | (with_reducible first | exact HB.out | apply below_alloc | apply pw_below_drewN | apply below_drew1 | refine below_set ?_ GE309.out | refine below_set ?_ GE310.out | refine below_set ?_ GE318.out) | exact HB.out)))); have n4_ := offertorylaw25_IdealTurns.keepB BK309 hb; have n5_ := offertorylaw25_IdealTurns.keepB BK310 hb; have n6_ := offertorylaw25_IdealTurns.keepB BK318 hb; have n7_ := Aside0.mk (below_step (by repeat (first | (with_reducible first | exact HB.out | apply below_alloc | apply pw_below_drewN | apply below_drew1 | refine below_set ?_ GE309.out | refine below_set ?_ GE310.out | refine below_set ?_ GE318.out) | exact HB.out)) hb); clear HO_319000; clear HO_319001; clear BK309; clear BK310; clear BK318; clear HB; have HO_319000 := n0_; have HO_319001 := n1_; have HO323 := n2_; have HO326 := n3_; have BK309 := n4_; have BK310 := n5_; have BK318 := n6_; have HB := n7_; clear n0_ n1_ n2_ n3_ n4_ n5_ n6_ n7_; (try clear hb); (try clear hb2); (try clear hk); (try clear hi); (try clear ho0); (try clear ho1)) | ((with_reducible refine gate_dst (N := 15) rfl ?_); refine box_event ?hg (N := 15) ?hd (cs := #[.slice none 0 0, .slice none 0 0]) (t := 25) ?hr ?_; (case hd => rfl); (case hg => rfl); (case hr => first | (go_simp; done) | (go_simp; rfl)); intro gb328 hg w39 hbox hb; have n0_ := Aside0.mk (Kd.R_below (by (with_reducible repeat (first | apply Kd.R_alloc | apply Kd.R_drewN | apply Kd.R_drew)); exact HO_319000.out) hb); have n1_ := Aside0.mk (Kd.R_below (by (with_reducible repeat (first | apply Kd.R_alloc | apply Kd.R_drewN | apply Kd.R_drew)); exact HO_319001.out) hb); have n2_ := Aside0.mk (Kd.R_below (by (with_reducible repeat (first | apply Kd.R_alloc | apply Kd.R_drewN | apply Kd.R_drew)); exact HO323.out) hb); have n3_ := Aside0.mk (Kd.R_below (by (with_reducible repeat (first | apply Kd.R_alloc | apply Kd.R_drewN | apply Kd.R_drew)); exact HO326.out) hb); have n4_ := offertorylaw25_IdealTurns.keepB BK309 hb; have n5_ := offertorylaw25_IdealTurns.keepB BK310 hb; have n6_ := offertorylaw25_IdealTurns.keepB BK318 hb; have n7_ := Aside0.mk (below_step (by repeat (first | (with_reducible first | exact HB.out | apply below_alloc | apply pw_below_drewN | apply below_drew1 | refine below_set ?_ GE309.out | refine below_set ?_ GE310.out | refine below_set ?_ GE318.out) | exact HB.out)) hb); have n8_ := Aside0.mk (hbox); have n9_ := Aside0.mk ((by rw [hg]; exact (below_size (by repeat (first | (with_reducible first | exact HB.out | apply below_alloc | apply pw_below_drewN | apply below_drew1 | refine below_set ?_ GE309.out | refine below_set ?_ GE310.out | refine below_set ?_ GE318.out) | exact HB.out))) : w.heap.size ≤ gb328)); have n10_ := Aside0.mk ((by rw [hg]; exact (below_size (by repeat (first | (with_reducible first | exact HB.out | apply below_alloc | apply pw_below_drewN | apply below_drew1 | refine below_set ?_ GE309.out | refine below_set ?_ GE310.out | refine below_set ?_ GE318.out) | exact HB.out))) : w.heap.size ≤ gb328)); have n11_ := offertorylaw25_IdealTurns.neL BK309 hg; have n12_ := offertorylaw25_IdealTurns.neG BK309 hg; have n13_ := offertorylaw25_IdealTurns.neL BK310 hg; have n14_ := offertorylaw25_IdealTurns.neG BK310 hg; have n15_ := offertorylaw25_IdealTurns.neL BK318 hg; have n16_ := offertorylaw25_IdealTurns.neG BK318 hg; clear HO_319000; clear HO_319001; clear HO323; clear HO326; clear BK309; clear BK310; clear BK318; clear HB; have HO_319000 := n0_; have HO_319001 := n1_; have HO323 := n2_; have HO326 := n3_; have BK309 := n4_; have BK310 := n5_; have BK318 := n6_; have HB := n7_; have BK328 := n8_; have GW328 := n9_; have GE328 := n10_; have NB309_328 := n11_; have NB328_309 := n12_; have NB310_328 := n13_; have NB328_310 := n14_; have NB318_328 := n15_; have NB328_318 := n16_; clear n0_ n1_ n2_ n3_ n4_ n5_ n6_ n7_ n8_ n9_ n10_ n11_ n12_ n13_ n14_ n15_ n16_; clear hb hbox hg; obtain ⟨Ao40, co40, eo40⟩ := Kd.R_slice HO323.out; subst eo40; have hnb41 := NB328_309.out; have hnc41 := NB309_328.out; have hnb42 := NB328_310.out; have hnc42 := NB310_328.out; have hnb43 := NB328_318.out; have hnc43 := NB318_328.out; have hcz44_0 : w39.cell? ⟨gb328, 0, none⟩ = some (.slice none 0 0) := (blk_cell BK328.out 0).trans rfl; have hcz44_1 : w39.cell? ⟨gb328, 1, none⟩ = some (.slice none 0 0) := (blk_cell BK328.out 1).trans rfl; have hfz44_0 := blk_frozen BK328.out 0; have hfz44_1 := blk_frozen BK328.out 1; obtain ⟨Ao45, co45, eo45⟩ := Kd.R_slice HO326.out; subst eo45; have hnb46 := NB310_309.out; have hnc46 := NB309_310.out; have hcz47_0 : w39.cell? ⟨gb310, 0, none⟩ = some (.slice A3_0 l3_0.length c3_0) := (blk_cell BK310.out 0).trans rfl; have hcz47_1 : w39.cell? ⟨gb310, 1, none⟩ = some (.slice A3_1 l3_1.length c3_1) := (blk_cell BK310.out 1).trans rfl; have hfz47_0 := blk_frozen BK310.out 0; have hfz47_1 := blk_frozen BK310.out 1) | ((with_reducible refine gate_callee (f := 16) rfl ?_); refine goesL_ (some 50) rfl rfl Tryd.func16 (by kernel_rfl) rfl #[.slice A0 l0.length c0, .slice A1 l1.length c1, .agg #[.slice A3_0 l3_0.length c3_0, .slice A3_1 l3_1.length c3_1], .int .u64 a4, .int .u64 a5] rfl (by (try simp only [List.map_toArray, List.map_cons, List.map_nil]); first | done | rfl | (simp only [List.length_drop, List.length_take]; rfl)) ?_; (with_reducible refine (ideal_Turn.calls kj7 _ _ l0 _ _ l1 _ _ l3_0 _ _ l3_1 a4 a5 t329 t332 t335 _ ?side1 ?side2 ?side3 ?side4 ?side5 ?side6 ?side7 ?side8 A28.out).mono ?_); (case side1 => exact Kd.C_below HR0.out (by repeat (first | (with_reducible first | exact HB.out | apply below_alloc | apply pw_below_drewN | apply below_drew1 | refine below_set ?_ GE309.out | refine below_set ?_ GE310.out | refine below_set ?_ GE318.out | refine below_set ?_ GE328.out) | exact HB.out))); (case side2 => exact HC0.out); (case side3 => exact Kd.C_below HR1.out (by repeat (first | (with_reducible first | exact HB.out | apply below_alloc | apply pw_below_drewN | apply below_drew1 | refine below_set ?_ GE309.out | refine below_set ?_ GE310.out | refine below_set ?_ GE318.out | refine below_set ?_ GE328.out) | exact HB.out))); (case side4 => exact HC1.out); (case side5 => exact Kd.C_below HR3_0.out (by repeat (first | (with_reducible first | exact HB.out | apply below_alloc | apply pw_below_drewN | apply below_drew1 | refine below_set ?_ GE309.out | refine below_set ?_ GE310.out | refine below_set ?_ GE318.out | refine below_set ?_ GE328.out) | exact HB.out))); (case side6 => exact HC3_0.out); (case side7 => exact Kd.C_below HR3_1.out (by repeat (first | (with_reducible first | exact HB.out | apply below_alloc | apply pw_below_drewN | apply below_drew1 | refine below_set ?_ GE309.out | refine below_set ?_ GE310.out | refine below_set ?_ GE318.out | refine below_set ?_ GE328.out) | exact HB.out))); (case side8 => exact HC3_1.out); rintro e w48 ⟨v330, v333, rfl, ho0, ho1, hb⟩; refine ⟨_, rfl, ?_⟩; have n0_ := Aside0.mk (Kd.R_elder' (by (with_reducible repeat (first | apply Kd.R_alloc | apply Kd.R_drewN | apply Kd.R_drew)); exact (Kd.R_mono (Kd.R_far (p := ⟨gb328, 1, none⟩) (Kd.R_far (p := ⟨gb328, 0, none⟩) (Kd.R_types HO_319000.out BK328.out (by decide)) (fun _ hk => hk.2) (.slice Ao40 t321.length co40)) (fun _ hk => hk.2) (.slice Ao45 t324.length co45)) (fun _ h_ => h_.1))) (Kd.R_base ho0) hb); have n1_ := Aside0.mk (Kd.R_mono (Kd.R_told (Kd.R_told (Kd.R_old (by (with_reducible repeat (first | apply Kd.R_alloc | apply Kd.R_drewN | apply Kd.R_drew)); exact (Kd.R_mono (Kd.R_far (p := ⟨gb328, 1, none⟩) (Kd.R_far (p := ⟨gb328, 0, none⟩) (Kd.R_types HO_319001.out BK328.out (by decide)) (fun _ hk => hk.2) (.slice Ao40 t321.length co40)) (fun _ hk => hk.2) (.slice Ao45 t324.length co45)) (fun _ h_ => h_.1))) hb) (Kd.R_base ho0)) (Kd.R_base ho1)) (fun _ h_ => h_.1)); have n2_ := Aside0.mk (Kd.R_elder' (by (with_reducible repeat (first | apply Kd.R_alloc | apply Kd.R_drewN | apply Kd.R_drew)); exact (Kd.R_mono (Kd.R_far (p := ⟨gb328, 1, none⟩) (Kd.R_far (p := ⟨gb328, 0, none⟩) (Kd.R_types HO323.out BK328.out (by decide)) (fun _ hk => hk.2) (.slice Ao40 t321.length co40)) (fun _ hk => hk.2) (.slice Ao45 t324.length co45)) (fun _ h_ => h_.1))) (Kd.R_base ho0) hb); have n3_ := Aside0.mk (Kd.R_mono (Kd.R_told (Kd.R_told (Kd.R_old (by (with_reducible repeat (first | apply Kd.R_alloc | apply Kd.R_drewN | apply Kd.R_drew)); exact (Kd.R_mono (Kd.R_far (p := ⟨gb328, 1, none⟩) (Kd.R_far (p := ⟨gb328, 0, none⟩) (Kd.R_types HO326.out BK328.out (by decide)) (fun _ hk => hk.2) (.slice Ao40 t321.length co40)) (fun _ hk => hk.2) (.slice Ao45 t324.length co45)) (fun _ h_ => h_.1))) hb) (Kd.R_base ho0)) (Kd.R_base ho1)) (fun _ h_ => h_.1)); have n4_ := Aside0.mk (Kd.R_lower (Kd.R_new' (Kd.R_new' ho0 (Kd.R_lt (by (with_reducible repeat (first | apply Kd.R_alloc | apply Kd.R_drewN | apply Kd.R_drew)); exact (Kd.R_mono (Kd.R_far (p := ⟨gb328, 1, none⟩) (Kd.R_far (p := ⟨gb328, 0, none⟩) (Kd.R_types HO_319000.out BK328.out (by decide)) (fun _ hk => hk.2) (.slice Ao40 t321.length co40)) (fun _ hk => hk.2) (.slice Ao45 t324.length co45)) (fun _ h_ => h_.1))))) (Kd.R_lt (by (with_reducible repeat (first | apply Kd.R_alloc | apply Kd.R_drewN | apply Kd.R_drew)); exact (Kd.R_mono (Kd.R_far (p := ⟨gb328, 1, none⟩) (Kd.R_far (p := ⟨gb328, 0, none⟩) (Kd.R_types HO323.out BK328.out (by decide)) (fun _ hk => hk.2) (.slice Ao40 t321.length co40)) (fun _ hk => hk.2) (.slice Ao45 t324.length co45)) (fun _ h_ => h_.1))))) (below_size (by repeat (first | (with_reducible first | exact HB.out | apply below_alloc | apply pw_below_drewN | apply below_drew1 | refine below_set ?_ GE309.out | refine below_set ?_ GE310.out | refine below_set ?_ GE318.out | refine below_set ?_ GE328.out) | exact HB.out)))); have n5_ := Aside0.mk (Kd.R_lower (Kd.R_new' (Kd.R_new' (Kd.R_new' (Kd.R_new' ho1 (Kd.R_lt (by (with_reducible repeat (first | apply Kd.R_alloc | apply Kd.R_drewN | apply Kd.R_drew)); exact (Kd.R_mono (Kd.R_far (p := ⟨gb328, 1, none⟩) (Kd.R_far (p := ⟨gb328, 0, none⟩) (Kd.R_types HO_319000.out BK328.out (by decide)) (fun _ hk => hk.2) (.slice Ao40 t321.length co40)) (fun _ hk => hk.2) (.slice Ao45 t324.length co45)) (fun _ h_ => h_.1))))) (Kd.R_lt (by (with_reducible repeat (first | apply Kd.R_alloc | apply Kd.R_drewN | apply Kd.R_drew)); exact (Kd.R_mono (Kd.R_far (p := ⟨gb328, 1, none⟩) (Kd.R_far (p := ⟨gb328, 0, none⟩) (Kd.R_types HO_319001.out BK328.out (by decide)) (fun _ hk => hk.2) (.slice Ao40 t321.length co40)) (fun _ hk => hk.2) (.slice Ao45 t324.length co45)) (fun _ h_ => h_.1))))) (Kd.R_lt (by (with_reducible repeat (first | apply Kd.R_alloc | apply Kd.R_drewN | apply Kd.R_drew)); exact (Kd.R_mono (Kd.R_far (p := ⟨gb328, 1, none⟩) (Kd.R_far (p := ⟨gb328, 0, none⟩) (Kd.R_types HO323.out BK328.out (by decide)) (fun _ hk => hk.2) (.slice Ao40 t321.length co40)) (fun _ hk => hk.2) (.slice Ao45 t324.length co45)) (fun _ h_ => h_.1))))) (Kd.R_lt (by (with_reducible repeat (first | apply Kd.R_alloc | apply Kd.R_drewN | apply Kd.R_drew)); exact (Kd.R_mono (Kd.R_far (p := ⟨gb328, 1, none⟩) (Kd.R_far (p := ⟨gb328, 0, none⟩) (Kd.R_types HO326.out BK328.out (by decide)) (fun _ hk => hk.2) (.slice Ao40 t321.length co40)) (fun _ hk => hk.2) (.slice Ao45 t324.length co45)) (fun _ h_ => h_.1))))) (below_size (by repeat (first | (with_reducible first | exact HB.out | apply below_alloc | apply pw_below_drewN | apply below_drew1 | refine below_set ?_ GE309.out | refine below_set ?_ GE310.out | refine below_set ?_ GE318.out | refine below_set ?_ GE328.out) | exact HB.out)))); have n6_ := Aside0.mk (blk_below (g := gb309) (o := .cells #[.slice A2_0 l2_0.length c2_0, .slice A2_1 l2_1.length c2_1] 25 (0, 0)) (by (repeat (first | (with_reducible first | refine blk_drewN ?_ _ | refine blk_drew ?_ | refine blk_alloc ?_ _) | refine blk_far ?_ NB309_328.out _)); (with_reducible repeat (first | refine blk_drewN ?_ _ | refine blk_drew ?_ | refine blk_alloc ?_ _)); exact BK309.out) hb); have n7_ := Aside0.mk (blk_below (g := gb310) (o := .cells #[.slice A3_0 l3_0.length c3_0, .slice A3_1 l3_1.length c3_1] 25 (0, 0)) (by (repeat (first | (with_reducible first | refine blk_drewN ?_ _ | refine blk_drew ?_ | refine blk_alloc ?_ _) | refine blk_far ?_ NB310_328.out _)); (with_reducible repeat (first | refine blk_drewN ?_ _ | refine blk_drew ?_ | refine blk_alloc ?_ _)); exact BK310.out) hb); have n8_ := Aside0.mk (blk_below (g := gb318) (o := .cells #[.slice Ao15 t311.length co15, .slice Ao19 t314.length co19] 25 (0, 0)) (by (repeat (first | (with_reducible first | refine blk_drewN ?_ _ | refine blk_drew ?_ | refine blk_alloc ?_ _) | refine blk_far ?_ NB318_328.out _)); (with_reducible repeat (first | refine blk_drewN ?_ _ | refine blk_drew ?_ | refine blk_alloc ?_ _)); exact BK318.out) hb); have n9_ := Aside0.mk (blk_below (g := gb328) (o := .cells #[.slice Ao40 t321.length co40, .slice Ao45 t324.length co45] 25 (0, 0)) (by (with_reducible repeat (first | refine blk_drewN ?_ _ | refine blk_drew ?_ | refine blk_alloc ?_ _)); refine blk_put (cs := #[.slice Ao40 t321.length co40, .slice none 0 0]) ?_ 1 _ rfl; (with_reducible repeat (first | refine blk_drewN ?_ _ | refine blk_drew ?_ | refine blk_alloc ?_ _)); refine blk_put (cs := #[.slice none 0 0, .slice none 0 0]) ?_ 0 _ rfl; (with_reducible repeat (first | refine blk_drewN ?_ _ | refine blk_drew ?_ | refine blk_alloc ?_ _)); exact BK328.out) hb); have n10_ := Aside0.mk (below_step (by repeat (first | (with_reducible first | exact HB.out | apply below_alloc | apply pw_below_drewN | apply below_drew1 | refine below_set ?_ GE309.out | refine below_set ?_ GE310.out | refine below_set ?_ GE318.out | refine below_set ?_ GE328.out) | exact HB.out)) hb); clear HO_319000; clear HO_319001; clear HO323; clear HO326; clear BK309; clear BK310; clear BK318; clear BK328; clear HB; have HO_319000 := n0_; have HO_319001 := n1_; have HO323 := n2_; have HO326 := n3_; have HO331 := n4_; have HO334 := n5_; have BK309 := n6_; have BK310 := n7_; have BK318 := n8_; have BK328 := n9_; have HB := n10_; clear n0_ n1_ n2_ n3_ n4_ n5_ n6_ n7_ n8_ n9_ n10_; (try clear hb); (try clear hb2); (try clear hk); (try clear hi); (try clear ho0); (try clear ho1)) | ((with_reducible refine gate_dst (N := 17) rfl ?_); refine box_event ?hg (N := 17) ?hd (cs := #[.slice none 0 0, .slice none 0 0]) (t := 25) ?hr ?_; (case hd => rfl); (case hg => rfl); (case hr => first | (go_simp; done) | (go_simp; rfl)); intro gb336 hg w49 hbox hb; have n0_ := Aside0.mk (Kd.R_below (by (with_reducible repeat (first | apply Kd.R_alloc | apply Kd.R_drewN | apply Kd.R_drew)); exact HO_319000.out) hb); have n1_ := Aside0.mk (Kd.R_below (by (with_reducible repeat (first | apply Kd.R_alloc | apply Kd.R_drewN | apply Kd.R_drew)); exact HO_319001.out) hb); have n2_ := Aside0.mk (Kd.R_below (by (with_reducible repeat (first | apply Kd.R_alloc | apply Kd.R_drewN | apply Kd.R_drew)); exact HO323.out) hb); have n3_ := Aside0.mk (Kd.R_below (by (with_reducible repeat (first | apply Kd.R_alloc | apply Kd.R_drewN | apply Kd.R_drew)); exact HO326.out) hb); have n4_ := Aside0.mk (Kd.R_below (by (with_reducible repeat (first | apply Kd.R_alloc | apply Kd.R_drewN | apply Kd.R_drew)); exact HO331.out) hb); have n5_ := Aside0.mk (Kd.R_below (by (with_reducible repeat (first | apply Kd.R_alloc | apply Kd.R_drewN | apply Kd.R_drew)); exact HO334.out) hb); have n6_ := offertorylaw25_IdealTurns.keepB BK309 hb; have n7_ := offertorylaw25_IdealTurns.keepB BK310 hb; have n8_ := offertorylaw25_IdealTurns.keepB BK318 hb; have n9_ := offertorylaw25_IdealTurns.keepB BK328 hb; have n10_ := Aside0.mk (below_step (by repeat (first | (with_reducible first | exact HB.out | apply below_alloc | apply pw_below_drewN | apply below_drew1 | refine below_set ?_ GE309.out | refine below_set ?_ GE310.out | refine below_set ?_ GE318.out | refine below_set ?_ GE328.out) | exact HB.out)) hb); have n11_ := Aside0.mk (hbox); have n12_ := Aside0.mk ((by rw [hg]; exact (below_size (by repeat (first | (with_reducible first | exact HB.out | apply below_alloc | apply pw_below_drewN | apply below_drew1 | refine below_set ?_ GE309.out | refine below_set ?_ GE310.out | refine below_set ?_ GE318.out | refine below_set ?_ GE328.out) | exact HB.out))) : w.heap.size ≤ gb336)); have n13_ := Aside0.mk ((by rw [hg]; exact (below_size (by repeat (first | (with_reducible first | exact HB.out | apply below_alloc | apply pw_below_drewN | apply below_drew1 | refine below_set ?_ GE309.out | refine below_set ?_ GE310.out | refine below_set ?_ GE318.out | refine below_set ?_ GE328.out) | exact HB.out))) : w.heap.size ≤ gb336)); have n14_ := offertorylaw25_IdealTurns.neL BK309 hg; have n15_ := offertorylaw25_IdealTurns.neG BK309 hg; have n16_ := offertorylaw25_IdealTurns.neL BK310 hg; have n17_ := offertorylaw25_IdealTurns.neG BK310 hg; have n18_ := offertorylaw25_IdealTurns.neL BK318 hg; have n19_ := offertorylaw25_IdealTurns.neG BK318 hg; have n20_ := offertorylaw25_IdealTurns.neL BK328 hg; have n21_ := offertorylaw25_IdealTurns.neG BK328 hg; clear HO_319000; clear HO_319001; clear HO323; clear HO326; clear HO331; clear HO334; clear BK309; clear BK310; clear BK318; clear BK328; clear HB; have HO_319000 := n0_; have HO_319001 := n1_; have HO323 := n2_; have HO326 := n3_; have HO331 := n4_; have HO334 := n5_; have BK309 := n6_; have BK310 := n7_; have BK318 := n8_; have BK328 := n9_; have HB := n10_; have BK336 := n11_; have GW336 := n12_; have GE336 := n13_; have NB309_336 := n14_; have NB336_309 := n15_; have NB310_336 := n16_; have NB336_310 := n17_; have NB318_336 := n18_; have NB336_318 := n19_; have NB328_336 := n20_; have NB336_328 := n21_; clear n0_ n1_ n2_ n3_ n4_ n5_ n6_ n7_ n8_ n9_ n10_ n11_ n12_ n13_ n14_ n15_ n16_ n17_ n18_ n19_ n20_ n21_; clear hb hbox hg; obtain ⟨Ao50, co50, eo50⟩ := Kd.R_slice HO331.out; subst eo50; have hnb51 := NB336_309.out; have hnc51 := NB309_336.out; have hnb52 := NB336_310.out; have hnc52 := NB310_336.out; have hnb53 := NB336_318.out; have hnc53 := NB318_336.out; have hnb54 := NB336_328.out; have hnc54 := NB328_336.out; have hcz55_0 : w49.cell? ⟨gb336, 0, none⟩ = some (.slice none 0 0) := (blk_cell BK336.out 0).trans rfl; have hcz55_1 : w49.cell? ⟨gb336, 1, none⟩ = some (.slice none 0 0) := (blk_cell BK336.out 1).trans rfl; have hfz55_0 := blk_frozen BK336.out 0; have hfz55_1 := blk_frozen BK336.out 1; obtain ⟨Ao56, co56, eo56⟩ := Kd.R_slice HO334.out; subst eo56))
       have n0_ : Aside0 (Kd.R (Kd.slice 37 (Kd.int .u32)) 35 ((w49.setCell ⟨gb336, 0, none⟩ (.slice Ao50 t329.length co50)).setCell ⟨gb336, 1, none⟩ (.slice Ao56 t332.length co56)) w.heap.size (fun k_ => some k_ ≠ (.slice Ao40 t321.length co40 : Value).ownBlock ∧ some k_ ≠ (.slice Ao50 t329.length co50 : Value).ownBlock) (.slice Ao15 t311.length co15) t311) := ⟨by (with_reducible repeat (first | apply Kd.R_alloc | apply Kd.R_drewN | apply Kd.R_drew)); exact Kd.R_mono (Kd.R_far (p := ⟨gb336, 1, none⟩) (Kd.R_far (p := ⟨gb336, 0, none⟩) (Kd.R_types HO_319000.out BK336.out (by decide)) (fun _ hk => hk.2) (.slice Ao50 t329.length co50)) (fun _ hk => hk.2) (.slice Ao56 t332.length co56)) (fun _ hk => ⟨hk.1.1.2, hk.1.2⟩)⟩
       have n1_ : Aside0 (Kd.R (Kd.slice 35 (Kd.slice 37 (Kd.int .u32))) 22 ((w49.setCell ⟨gb336, 0, none⟩ (.slice Ao50 t329.length co50)).setCell ⟨gb336, 1, none⟩ (.slice Ao56 t332.length co56)) w.heap.size (fun k_ => some k_ ≠ (.slice Ao15 t311.length co15 : Value).ownBlock ∧ some k_ ≠ (.slice Ao40 t321.length co40 : Value).ownBlock ∧ some k_ ≠ (.slice Ao45 t324.length co45 : Value).ownBlock ∧ some k_ ≠ (.slice Ao50 t329.length co50 : Value).ownBlock ∧ some k_ ≠ (.slice Ao56 t332.length co56 : Value).ownBlock) (.slice Ao19 t314.length co19) t314) := ⟨by (with_reducible repeat (first | apply Kd.R_alloc | apply Kd.R_drewN | apply Kd.R_drew)); exact Kd.R_mono (Kd.R_far (p := ⟨gb336, 1, none⟩) (Kd.R_far (p := ⟨gb336, 0, none⟩) (Kd.R_types HO_319001.out BK336.out (by decide)) (fun _ hk => hk.2) (.slice Ao50 t329.length co50)) (fun _ hk => hk.2) (.slice Ao56 t332.length co56)) (fun _ hk => ⟨hk.1.1.1.1.1, ⟨hk.1.1.1.1.2, ⟨hk.1.1.1.2, ⟨hk.1.1.2, hk.1.2⟩⟩⟩⟩)⟩
       have n2_ : Aside0 (Kd.R (Kd.slice 37 (Kd.int .u32)) 35 ((w49.setCell ⟨gb336, 0, none⟩ (.slice Ao50 t329.length co50)).setCell ⟨gb336, 1, none⟩ (.slice Ao56 t332.length co56)) w.heap.size (fun k_ => some k_ ≠ (.slice Ao15 t311.length co15 : Value).ownBlock ∧ some k_ ≠ (.slice Ao50 t329.length co50 : Value).ownBlock) (.slice Ao40 t321.length co40) t321) := ⟨by (with_reducible repeat (first | apply Kd.R_alloc | apply Kd.R_drewN | apply Kd.R_drew)); exact Kd.R_mono (Kd.R_far (p := ⟨gb336, 1, none⟩) (Kd.R_far (p := ⟨gb336, 0, none⟩) (Kd.R_types HO323.out BK336.out (by decide)) (fun _ hk => hk.2) (.slice Ao50 t329.length co50)) (fun _ hk => hk.2) (.slice Ao56 t332.length co56)) (fun _ hk => ⟨hk.1.1.2, hk.1.2⟩)⟩
       have n3_ : Aside0 (Kd.R (Kd.slice 35 (Kd.slice 37 (Kd.int .u32))) 22 ((w49.setCell ⟨gb336, 0, none⟩ (.slice Ao50 t329.length co50)).setCell ⟨gb336, 1, none⟩ (.slice Ao56 t332.length co56)) w.heap.size (fun k_ => some k_ ≠ (.slice Ao15 t311.length co15 : Value).ownBlock ∧ some k_ ≠ (.slice Ao19 t314.length co19 : Value).ownBlock ∧ some k_ ≠ (.slice Ao40 t321.length co40 : Value).ownBlock ∧ some k_ ≠ (.slice Ao50 t329.length co50 : Value).ownBlock ∧ some k_ ≠ (.slice Ao56 t332.length co56 : Value).ownBlock) (.slice Ao45 t324.length co45) t324) := ⟨by (with_reducible repeat (first | apply Kd.R_alloc | apply Kd.R_drewN | apply Kd.R_drew)); exact Kd.R_mono (Kd.R_far (p := ⟨gb336, 1, none⟩) (Kd.R_far (p := ⟨gb336, 0, none⟩) (Kd.R_types HO326.out BK336.out (by decide)) (fun _ hk => hk.2) (.slice Ao50 t329.length co50)) (fun _ hk => hk.2) (.slice Ao56 t332.length co56)) (fun _ hk => ⟨hk.1.1.1.1.2, ⟨hk.1.1.1.2, ⟨hk.1.1.1.1.1, ⟨hk.1.1.2, hk.1.2⟩⟩⟩⟩)⟩
       have n4_ : Aside0 (Kd.R (Kd.slice 37 (Kd.int .u32)) 35 ((w49.setCell ⟨gb336, 0, none⟩ (.slice Ao50 t329.length co50)).setCell ⟨gb336, 1, none⟩ (.slice Ao56 t332.length co56)) w.heap.size (fun k_ => some k_ ≠ (.slice Ao15 t311.length co15 : Value).ownBlock ∧ some k_ ≠ (.slice Ao40 t321.length co40 : Value).ownBlock) (.slice Ao50 t329.length co50) t329) := ⟨by (with_reducible repeat (first | apply Kd.R_alloc | apply Kd.R_drewN | apply Kd.R_drew)); exact Kd.R_mono (Kd.R_far (p := ⟨gb336, 1, none⟩) (Kd.R_far (p := ⟨gb336, 0, none⟩) (Kd.R_types HO331.out BK336.out (by decide)) (fun _ hk => hk.2) (.slice Ao50 t329.length co50)) (fun _ hk => hk.2) (.slice Ao56 t332.length co56)) (fun _ hk => ⟨hk.1.1.2, hk.1.2⟩)⟩
       have n5_ : Aside0 (Kd.R (Kd.slice 35 (Kd.slice 37 (Kd.int .u32))) 22 ((w49.setCell ⟨gb336, 0, none⟩ (.slice Ao50 t329.length co50)).setCell ⟨gb336, 1, none⟩ (.slice Ao56 t332.length co56)) w.heap.size (fun k_ => some k_ ≠ (.slice Ao15 t311.length co15 : Value).ownBlock ∧ some k_ ≠ (.slice Ao19 t314.length co19 : Value).ownBlock ∧ some k_ ≠ (.slice Ao40 t321.length co40 : Value).ownBlock ∧ some k_ ≠ (.slice Ao45 t324.length co45 : Value).ownBlock ∧ some k_ ≠ (.slice Ao50 t329.length co50 : Value).ownBlock) (.slice Ao56 t332.length co56) t332) := ⟨by (with_reducible repeat (first | apply Kd.R_alloc | apply Kd.R_drewN | apply Kd.R_drew)); exact Kd.R_mono (Kd.R_far (p := ⟨gb336, 1, none⟩) (Kd.R_far (p := ⟨gb336, 0, none⟩) (Kd.R_types HO334.out BK336.out (by decide)) (fun _ hk => hk.2) (.slice Ao50 t329.length co50)) (fun _ hk => hk.2) (.slice Ao56 t332.length co56)) (fun _ hk => ⟨hk.1.1.1.1.2, ⟨hk.1.1.1.2, ⟨hk.1.1.2, ⟨hk.1.2, hk.1.1.1.1.1⟩⟩⟩⟩)⟩
       have n6_ : Aside0 (((w49.setCell ⟨gb336, 0, none⟩ (.slice Ao50 t329.length co50)).setCell ⟨gb336, 1, none⟩ (.slice Ao56 t332.length co56)).heap[gb309]? = some (.cells #[.slice A2_0 l2_0.length c2_0, .slice A2_1 l2_1.length c2_1] 25 (0, 0))) := ⟨by (repeat (first | (with_reducible first | refine blk_drewN ?_ _ | refine blk_drew ?_ | refine blk_alloc ?_ _) | refine blk_far ?_ NB309_336.out _)); (with_reducible repeat (first | refine blk_drewN ?_ _ | refine blk_drew ?_ | refine blk_alloc ?_ _)); exact BK309.out⟩
       have n7_ : Aside0 (((w49.setCell ⟨gb336, 0, none⟩ (.slice Ao50 t329.length co50)).setCell ⟨gb336, 1, none⟩ (.slice Ao56 t332.length co56)).heap[gb310]? = some (.cells #[.slice A3_0 l3_0.length c3_0, .slice A3_1 l3_1.length c3_1] 25 (0, 0))) := ⟨by (repeat (first | (with_reducible first | refine blk_drewN ?_ _ | refine blk_drew ?_ | refine blk_alloc ?_ _) | refine blk_far ?_ NB310_336.out _)); (with_reducible repeat (first | refine blk_drewN ?_ _ | refine blk_drew ?_ | refine blk_alloc ?_ _)); exact BK310.out⟩
       have n8_ : Aside0 (((w49.setCell ⟨gb336, 0, none⟩ (.slice Ao50 t329.length co50)).setCell ⟨gb336, 1, none⟩ (.slice Ao56 t332.length co56)).heap[gb318]? = some (.cells #[.slice Ao15 t311.length co15, .slice Ao19 t314.length co19] 25 (0, 0))) := ⟨by (repeat (first | (with_reducible first | refine blk_drewN ?_ _ | refine blk_drew ?_ | refine blk_alloc ?_ _) | refine blk_far ?_ NB318_336.out _)); (with_reducible repeat (first | refine blk_drewN ?_ _ | refine blk_drew ?_ | refine blk_alloc ?_ _)); exact BK318.out⟩
       have n9_ : Aside0 (((w49.setCell ⟨gb336, 0, none⟩ (.slice Ao50 t329.length co50)).setCell ⟨gb336, 1, none⟩ (.slice Ao56 t332.length co56)).heap[gb328]? = some (.cells #[.slice Ao40 t321.length co40, .slice Ao45 t324.length co45] 25 (0, 0))) := ⟨by (repeat (first | (with_reducible first | refine blk_drewN ?_ _ | refine blk_drew ?_ | refine blk_alloc ?_ _) | refine blk_far ?_ NB328_336.out _)); (with_reducible repeat (first | refine blk_drewN ?_ _ | refine blk_drew ?_ | refine blk_alloc ?_ _)); exact BK328.out⟩
       have n10_ : Aside0 (((w49.setCell ⟨gb336, 0, none⟩ (.slice Ao50 t329.length co50)).setCell ⟨gb336, 1, none⟩ (.slice Ao56 t332.length co56)).heap[gb336]? = some (.cells #[.slice Ao50 t329.length co50, .slice Ao56 t332.length co56] 25 (0, 0))) := ⟨by (with_reducible repeat (first | refine blk_drewN ?_ _ | refine blk_drew ?_ | refine blk_alloc ?_ _)); refine blk_put (cs := #[.slice Ao50 t329.length co50, .slice none 0 0]) ?_ 1 _ rfl; (with_reducible repeat (first | refine blk_drewN ?_ _ | refine blk_drew ?_ | refine blk_alloc ?_ _)); refine blk_put (cs := #[.slice none 0 0, .slice none 0 0]) ?_ 0 _ rfl; (with_reducible repeat (first | refine blk_drewN ?_ _ | refine blk_drew ?_ | refine blk_alloc ?_ _)); exact BK336.out⟩
       have n11_ : Aside0 (Below w.heap.size w ((w49.setCell ⟨gb336, 0, none⟩ (.slice Ao50 t329.length co50)).setCell ⟨gb336, 1, none⟩ (.slice Ao56 t332.length co56))) := ⟨by repeat (first | (with_reducible first | exact HB.out | apply below_alloc | apply pw_below_drewN | apply below_drew1 | refine below_set ?_ GE309.out | refine below_set ?_ GE310.out | refine below_set ?_ GE318.out | refine below_set ?_ GE328.out | refine below_set ?_ GE336.out) | exact HB.out)⟩
       (try clear HO_319000)
       (try clear HO_319001)
       (try clear HO323)
       (try clear HO326)
       (try clear HO331)
       (try clear HO334)
       (try clear BK309)
       (try clear BK310)
       (try clear BK318)
       (try clear BK328)
       (try clear BK336)
       (try clear HB)
       generalize ((w49.setCell ⟨gb336, 0, none⟩ (.slice Ao50 t329.length co50)).setCell ⟨gb336, 1, none⟩ (.slice Ao56 t332.length co56)) = w57 at n0_ n1_ n2_ n3_ n4_ n5_ n6_ n7_ n8_ n9_ n10_ n11_ ⊢
       have HO_319000 := n0_
       have HO_319001 := n1_
       have HO323 := n2_
       have HO326 := n3_
       have HO331 := n4_
       have HO334 := n5_
       have BK309 := n6_
       have BK310 := n7_
       have BK318 := n8_
       have BK328 := n9_
       have BK336 := n10_
       have HB := n11_
       clear n0_ n1_ n2_ n3_ n4_ n5_ n6_ n7_ n8_ n9_ n10_ n11_
       have n0_ := Aside0.mk (Kd.R_drew HO_319000.out)
       have n1_ := Aside0.mk (Kd.R_drew HO_319001.out)
       have n2_ := Aside0.mk (Kd.R_drew HO323.out)
       have n3_ := Aside0.mk (Kd.R_drew HO326.out)
       have n4_ := Aside0.mk (Kd.R_drew HO331.out)
       have n5_ := Aside0.mk (Kd.R_drew HO334.out)
       have n6_ := Aside0.mk (blk_drew BK309.out)
       have n7_ := Aside0.mk (blk_drew BK310.out)
       have n8_ := Aside0.mk (blk_drew BK318.out)
       have n9_ := Aside0.mk (blk_drew BK328.out)
       have n10_ := Aside0.mk (blk_drew BK336.out)
       have n11_ := Aside0.mk (below_drew1 HB.out)
       clear HO_319000
       clear HO_319001
       clear HO323
       clear HO326
       clear HO331
       clear HO334
       clear BK309
       clear BK310
       clear BK318
       clear BK328
       clear BK336
       clear HB
       have HO_319000 := n0_
       have HO_319001 := n1_
       have HO323 := n2_
       have HO326 := n3_
       have HO331 := n4_
       have HO334 := n5_
       have BK309 := n6_
       have BK310 := n7_
       have BK318 := n8_
       have BK328 := n9_
       have BK336 := n10_
       have HB := n11_
       clear n0_ n1_ n2_ n3_ n4_ n5_ n6_ n7_ n8_ n9_ n10_ n11_
       refine start_ (n := 21) (S := fun w' => w'.cell? ⟨gb328, 0, none⟩ = some (.slice Ao40 t321.length co40) ∧ w'.cell? ⟨gb328, 1, none⟩ = some (.slice Ao45 t324.length co45) ∧ w'.cell? ⟨gb309, 0, none⟩ = some (.slice A2_0 l2_0.length c2_0) ∧ w'.cell? ⟨gb309, 1, none⟩ = some (.slice A2_1 l2_1.length c2_1) ∧ w'.cell? ⟨gb318, 0, none⟩ = some (.slice Ao15 t311.length co15) ∧ w'.cell? ⟨gb318, 1, none⟩ = some (.slice Ao19 t314.length co19) ∧ w'.cell? ⟨gb336, 0, none⟩ = some (.slice Ao50 t329.length co50) ∧ w'.cell? ⟨gb336, 1, none⟩ = some (.slice Ao56 t332.length co56) ∧ w'.cell? ⟨gb310, 0, none⟩ = some (.slice A3_0 l3_0.length c3_0) ∧ w'.cell? ⟨gb310, 1, none⟩ = some (.slice A3_1 l3_1.length c3_1)) (ds := []) #[F, F, F, F, F, F, F, F, F, F, F, F, F, F, F, F, F, F, F, F, F] (by kernel_rfl) rfl rfl ⟨(blk_cell BK328.out 0).trans rfl, (blk_cell BK328.out 1).trans rfl, (blk_cell BK309.out 0).trans rfl, (blk_cell BK309.out 1).trans rfl, (blk_cell BK318.out 0).trans rfl, (blk_cell BK318.out 1).trans rfl, (blk_cell BK336.out 0).trans rfl, (blk_cell BK336.out 1).trans rfl, (blk_cell BK310.out 0).trans rfl, (blk_cell BK310.out 1).trans rfl⟩ (fun hHeld => ?_); refine with_tabW offertorylaw25_IdealTurns.tab6 offertorylaw25_IdealTurns.bits6 (fun HT_ HW_ => ?_)
       generalize w57.drew = w58 at HO_319000 HO_319001 HO323 HO326 HO331 HO334 BK309 BK310 BK318 BK328 BK336 HB hHeld ⊢
       refine pure_ (i := 0) (N := some 53) (v := ?_) (a' := ?_) #[T, F, F, F, F, F, F, F, F, F, F, F, F, F, F, F, F, F, F, F, F] rfl rfl (any_of HT_.out (by kernel_rfl)) (fun _ _ _ h => h) (Or.inl ⟨by rfl, ?_⟩) ?_ ?_
       rotate_left
       ·
        intro w'
        (try simp only [add_plain] at s0 s1 s2 s3 s4 s5 s6 s7 s8 s9)
        go_simp
        with_reducible rfl
       rotate_left
       ·
        simp only [Act.put, List.setIfInBounds_toArray, List.set_cons_zero, List.set_cons_succ, i64_w, i32_w]
        rfl
       refine pure_ (i := 1) (N := some 54) (v := ?_) (a' := ?_) #[T, T, F, F, F, F, F, F, F, F, F, F, F, F, F, F, F, F, F, F, F] rfl rfl (any_of HT_.out (by kernel_rfl)) (fun _ _ _ h => h) (Or.inl ⟨by rfl, ?_⟩) ?_ ?_
       rotate_left
       ·
        intro w'
        (try simp only [add_plain] at s0 s1 s2 s3 s4 s5 s6 s7 s8 s9)
        go_simp
        with_reducible rfl
       rotate_left
       ·
        simp only [Act.put, List.setIfInBounds_toArray, List.set_cons_zero, List.set_cons_succ, i64_w, i32_w]
        rfl
       refine pure_ (i := 2) (N := some 55) (v := ?_) (a' := ?_) #[T, T, T, F, F, F, F, F, F, F, F, F, F, F, F, F, F, F, F, F, F] rfl rfl (any_of HT_.out (by kernel_rfl)) (fun _ _ _ h => h) (Or.inl ⟨by rfl, ?_⟩) ?_ ?_
       rotate_left
       ·
        intro w'
        (try simp only [add_plain] at s0 s1 s2 s3 s4 s5 s6 s7 s8 s9)
        go_simp
        with_reducible rfl
       rotate_left
       ·
        simp only [Act.put, List.setIfInBounds_toArray, List.set_cons_zero, List.set_cons_succ, i64_w, i32_w]
        rfl
       refine take_ (i := 3) (N := some 56) (v := ?_) (a' := ?_) #[T, T, T, T, F, F, F, F, F, F, F, F, F, F, F, F, F, F, F, F, F] rfl rfl (take_ofW HT_.out HW_.out (by kernel_rfl)) (fun _ _ _ h => h) (Or.inl ⟨by rfl, ?_⟩) hHeld ?_ ?_
       rotate_left
       ·
        rintro w' ⟨s0, s1, s2, s3, s4, s5, s6, s7, s8, s9⟩
        (try simp only [add_plain] at s0 s1 s2 s3 s4 s5 s6 s7 s8 s9)
        go_simp
        with_reducible rfl
       rotate_left
       ·
        simp only [Act.put, List.setIfInBounds_toArray, List.set_cons_zero, List.set_cons_succ, i64_w, i32_w]
        rfl
       refine take_ (i := 4) (N := some 57) (v := ?_) (a' := ?_) #[T, T, T, T, T, F, F, F, F, F, F, F, F, F, F, F, F, F, F, F, F] rfl rfl (take_ofW HT_.out HW_.out (by kernel_rfl)) (fun _ _ _ h => h) (Or.inl ⟨by rfl, ?_⟩) hHeld ?_ ?_
       rotate_left
       ·
        rintro w' ⟨s0, s1, s2, s3, s4, s5, s6, s7, s8, s9⟩
        (try simp only [add_plain] at s0 s1 s2 s3 s4 s5 s6 s7 s8 s9)
        go_simp
        with_reducible rfl
       rotate_left
       ·
        simp only [Act.put, List.setIfInBounds_toArray, List.set_cons_zero, List.set_cons_succ, i64_w, i32_w]
        rfl
       refine one_ (i := 5) (N := some 58) #[T, T, T, T, T, T, F, F, F, F, F, F, F, F, F, F, F, F, F, F, F] rfl rfl (one_of HT_.out (by kernel_rfl)) (by decide) (fun K hK => ?_)
       refine goes_ Tryd.func19 (by kernel_rfl) rfl #[.agg #[.slice Ao40 t321.length co40, .slice Ao45 t324.length co45], .agg #[.slice A2_0 l2_0.length c2_0, .slice A2_1 l2_1.length c2_1]] (by rfl) rfl rfl (by (try simp only [List.map_toArray, List.map_cons, List.map_nil]); first | done | rfl | (simp only [List.length_drop, List.length_take]; rfl)) ?_
       with_reducible refine (ideal_Alike.calls kj7 _ _ t321 _ _ t324 _ _ l2_0 _ _ l2_1 true _ ?side1 ?side2 ?side3 ?side4 ?side5 ?side6 ?side7 ?side8 A30.out).mono ?_
       (case side1 => repeat (first | exact (Kd.R_reads' HO323.out).2.2 | (with_reducible refine Kd.C_alloc ?_ _) | (with_reducible refine Kd.C_drewN ?_ _) | (with_reducible refine Kd.C_drew ?_)))
       (case side2 => exact (Kd.R_reads' HO323.out).2.1)
       (case side3 => repeat (first | exact (Kd.R_reads' HO326.out).2.2 | (with_reducible refine Kd.C_alloc ?_ _) | (with_reducible refine Kd.C_drewN ?_ _) | (with_reducible refine Kd.C_drew ?_)))
       (case side4 => exact (Kd.R_reads' HO326.out).2.1)
       (case side5 => repeat (first | exact (Kd.C_below HR2_0.out HB.out) | (with_reducible refine Kd.C_alloc ?_ _) | (with_reducible refine Kd.C_drewN ?_ _) | (with_reducible refine Kd.C_drew ?_)))
       (case side6 => exact HC2_0.out)
       (case side7 => repeat (first | exact (Kd.C_below HR2_1.out HB.out) | (with_reducible refine Kd.C_alloc ?_ _) | (with_reducible refine Kd.C_drewN ?_ _) | (with_reducible refine Kd.C_drew ?_)))
       (case side8 => exact HC2_1.out)
       rintro e w59 ⟨rfl, hb⟩
       refine ⟨_, rfl, ?_⟩
       have n0_ := Aside0.mk (Kd.R_below (by (with_reducible repeat (first | apply Kd.R_alloc | apply Kd.R_drewN | apply Kd.R_drew)); exact HO_319000.out) hb)
       have n1_ := Aside0.mk (Kd.R_below (by (with_reducible repeat (first | apply Kd.R_alloc | apply Kd.R_drewN | apply Kd.R_drew)); exact HO_319001.out) hb)
       have n2_ := Aside0.mk (Kd.R_below (by (with_reducible repeat (first | apply Kd.R_alloc | apply Kd.R_drewN | apply Kd.R_drew)); exact HO323.out) hb)
       have n3_ := Aside0.mk (Kd.R_below (by (with_reducible repeat (first | apply Kd.R_alloc | apply Kd.R_drewN | apply Kd.R_drew)); exact HO326.out) hb)
       have n4_ := Aside0.mk (Kd.R_below (by (with_reducible repeat (first | apply Kd.R_alloc | apply Kd.R_drewN | apply Kd.R_drew)); exact HO331.out) hb)
       have n5_ := Aside0.mk (Kd.R_below (by (with_reducible repeat (first | apply Kd.R_alloc | apply Kd.R_drewN | apply Kd.R_drew)); exact HO334.out) hb)
       have n6_ := offertorylaw25_IdealTurns.keepB BK309 hb
       have n7_ := offertorylaw25_IdealTurns.keepB BK310 hb
       have n8_ := offertorylaw25_IdealTurns.keepB BK318 hb
       have n9_ := offertorylaw25_IdealTurns.keepB BK328 hb
       have n10_ := offertorylaw25_IdealTurns.keepB BK336 hb
       have n11_ := Aside0.mk (below_step (by repeat (first | (with_reducible first | exact HB.out | apply below_alloc | apply pw_below_drewN | apply below_drew1 | refine below_set ?_ GE309.out | refine below_set ?_ GE310.out | refine below_set ?_ GE318.out | refine below_set ?_ GE328.out | refine below_set ?_ GE336.out) | exact HB.out)) hb)
       clear HO_319000
       clear HO_319001
       clear HO323
       clear HO326
       clear HO331
       clear HO334
       clear BK309
       clear BK310
       clear BK318
       clear BK328
       clear BK336
       clear HB
       have HO_319000 := n0_
       have HO_319001 := n1_
       have HO323 := n2_
       have HO326 := n3_
       have HO331 := n4_
       have HO334 := n5_
       have BK309 := n6_
       have BK310 := n7_
       have BK318 := n8_
       have BK328 := n9_
       have BK336 := n10_
       have HB := n11_
       clear n0_ n1_ n2_ n3_ n4_ n5_ n6_ n7_ n8_ n9_ n10_ n11_
       (try clear hb)
       (try clear hb2)
       (try clear hk)
       (try clear hi)
       refine hK.out _ _ ⟨(blk_cell BK328.out 0).trans rfl, (blk_cell BK328.out 1).trans rfl, (blk_cell BK309.out 0).trans rfl, (blk_cell BK309.out 1).trans rfl, (blk_cell BK318.out 0).trans rfl, (blk_cell BK318.out 1).trans rfl, (blk_cell BK336.out 0).trans rfl, (blk_cell BK336.out 1).trans rfl, (blk_cell BK310.out 0).trans rfl, (blk_cell BK310.out 1).trans rfl⟩ (fun hHeld => ?_)
       clear hK K
       refine norm_ (a' := ?_) ?_ ?_
       rotate_left
       ·
        show Act.put _ (some 58) _ = _
        simp only [Act.put, List.setIfInBounds_toArray, List.set_cons_zero, List.set_cons_succ, i64_w, i32_w]
        rfl
       refine pure_ (i := 6) (N := some 59) (v := ?_) (a' := ?_) #[T, T, T, T, T, T, T, F, F, F, F, F, F, F, F, F, F, F, F, F, F] rfl rfl (any_of HT_.out (by kernel_rfl)) (fun _ _ _ h => h) (Or.inl ⟨by rfl, ?_⟩) ?_ ?_
       rotate_left
       ·
        intro w'
        (try simp only [add_plain] at s0 s1 s2 s3 s4 s5 s6 s7 s8 s9)
        go_simp
        with_reducible rfl
       rotate_left
       ·
        simp only [Act.put, List.setIfInBounds_toArray, List.set_cons_zero, List.set_cons_succ, i64_w, i32_w]
        rfl
       refine pure_ (i := 7) (N := some 60) (v := ?_) (a' := ?_) #[T, T, T, T, T, T, T, T, F, F, F, F, F, F, F, F, F, F, F, F, F] rfl rfl (any_of HT_.out (by kernel_rfl)) (fun _ _ _ h => h) (Or.inl ⟨by rfl, ?_⟩) ?_ ?_
       rotate_left
       ·
        intro w'
        (try simp only [add_plain] at s0 s1 s2 s3 s4 s5 s6 s7 s8 s9)
        go_simp
        with_reducible rfl
       rotate_left
       ·
        simp only [Act.put, List.setIfInBounds_toArray, List.set_cons_zero, List.set_cons_succ, i64_w, i32_w]
        rfl
       refine pure_ (i := 8) (N := some 61) (v := ?_) (a' := ?_) #[T, T, T, T, T, T, T, T, T, F, F, F, F, F, F, F, F, F, F, F, F] rfl rfl (any_of HT_.out (by kernel_rfl)) (fun _ _ _ h => h) (Or.inl ⟨by rfl, ?_⟩) ?_ ?_
       rotate_left
       ·
        intro w'
        (try simp only [add_plain] at s0 s1 s2 s3 s4 s5 s6 s7 s8 s9)
        go_simp
        with_reducible rfl
       rotate_left
       ·
        simp only [Act.put, List.setIfInBounds_toArray, List.set_cons_zero, List.set_cons_succ, i64_w, i32_w]
        rfl
       refine pure_ (i := 9) (N := some 62) (v := ?_) (a' := ?_) #[T, T, T, T, T, T, T, T, T, T, F, F, F, F, F, F, F, F, F, F, F] rfl rfl (any_of HT_.out (by kernel_rfl)) (fun _ _ _ h => h) (Or.inl ⟨by rfl, ?_⟩) ?_ ?_
       rotate_left
       ·
        intro w'
        (try simp only [add_plain] at s0 s1 s2 s3 s4 s5 s6 s7 s8 s9)
        go_simp
        with_reducible rfl
       rotate_left
       ·
        simp only [Act.put, List.setIfInBounds_toArray, List.set_cons_zero, List.set_cons_succ, i64_w, i32_w]
        rfl
       refine pure_ (i := 10) (N := some 63) (v := ?_) (a' := ?_) #[T, T, T, T, T, T, T, T, T, T, T, F, F, F, F, F, F, F, F, F, F] rfl rfl (any_of HT_.out (by kernel_rfl)) (fun _ _ _ h => h) (Or.inl ⟨by rfl, ?_⟩) ?_ ?_
       rotate_left
       ·
        intro w'
        (try simp only [add_plain] at s0 s1 s2 s3 s4 s5 s6 s7 s8 s9)
        go_simp
        with_reducible rfl
       rotate_left
       ·
        simp only [Act.put, List.setIfInBounds_toArray, List.set_cons_zero, List.set_cons_succ, i64_w, i32_w]
        rfl
       refine take_ (i := 11) (N := some 64) (v := ?_) (a' := ?_) #[T, T, T, T, T, T, T, T, T, T, T, T, F, F, F, F, F, F, F, F, F] rfl rfl (take_ofW HT_.out HW_.out (by kernel_rfl)) (fun _ _ _ h => h) (Or.inl ⟨by rfl, ?_⟩) hHeld ?_ ?_
       rotate_left
       ·
        rintro w' ⟨s0, s1, s2, s3, s4, s5, s6, s7, s8, s9⟩
        (try simp only [add_plain] at s0 s1 s2 s3 s4 s5 s6 s7 s8 s9)
        go_simp
        with_reducible rfl
       rotate_left
       ·
        simp only [Act.put, List.setIfInBounds_toArray, List.set_cons_zero, List.set_cons_succ, i64_w, i32_w]
        rfl
       refine take_ (i := 12) (N := some 65) (v := ?_) (a' := ?_) #[T, T, T, T, T, T, T, T, T, T, T, T, T, F, F, F, F, F, F, F, F] rfl rfl (take_ofW HT_.out HW_.out (by kernel_rfl)) (fun _ _ _ h => h) (Or.inl ⟨by rfl, ?_⟩) hHeld ?_ ?_
       rotate_left
       ·
        rintro w' ⟨s0, s1, s2, s3, s4, s5, s6, s7, s8, s9⟩
        (try simp only [add_plain] at s0 s1 s2 s3 s4 s5 s6 s7 s8 s9)
        go_simp
        with_reducible rfl
       rotate_left
       ·
        simp only [Act.put, List.setIfInBounds_toArray, List.set_cons_zero, List.set_cons_succ, i64_w, i32_w]
        rfl
       refine take_ (i := 14) (N := some 67) (v := ?_) (a' := ?_) #[T, T, T, T, T, T, T, T, T, T, T, T, T, F, T, F, F, F, F, F, F] rfl rfl (take_ofW HT_.out HW_.out (by kernel_rfl)) (fun _ _ _ h => h) (Or.inl ⟨by rfl, ?_⟩) hHeld ?_ ?_
       rotate_left
       ·
        rintro w' ⟨s0, s1, s2, s3, s4, s5, s6, s7, s8, s9⟩
        (try simp only [add_plain] at s0 s1 s2 s3 s4 s5 s6 s7 s8 s9)
        go_simp
        with_reducible rfl
       rotate_left
       ·
        simp only [Act.put, List.setIfInBounds_toArray, List.set_cons_zero, List.set_cons_succ, i64_w, i32_w]
        rfl
       refine take_ (i := 15) (N := some 68) (v := ?_) (a' := ?_) #[T, T, T, T, T, T, T, T, T, T, T, T, T, F, T, T, F, F, F, F, F] rfl rfl (take_ofW HT_.out HW_.out (by kernel_rfl)) (fun _ _ _ h => h) (Or.inl ⟨by rfl, ?_⟩) hHeld ?_ ?_
       rotate_left
       ·
        rintro w' ⟨s0, s1, s2, s3, s4, s5, s6, s7, s8, s9⟩
        (try simp only [add_plain] at s0 s1 s2 s3 s4 s5 s6 s7 s8 s9)
        go_simp
        with_reducible rfl
       rotate_left
       ·
        simp only [Act.put, List.setIfInBounds_toArray, List.set_cons_zero, List.set_cons_succ, i64_w, i32_w]
        rfl
       refine one_ (i := 13) (N := some 66) #[T, T, T, T, T, T, T, T, T, T, T, T, T, T, T, T, F, F, F, F, F] rfl rfl (one_of HT_.out (by kernel_rfl)) (by decide) (fun K hK => ?_)
       refine goes_ Tryd.func19 (by kernel_rfl) rfl #[.agg #[.slice Ao15 t311.length co15, .slice Ao19 t314.length co19], .agg #[.slice Ao50 t329.length co50, .slice Ao56 t332.length co56]] (by rfl) rfl rfl (by (try simp only [List.map_toArray, List.map_cons, List.map_nil]); first | done | rfl | (simp only [List.length_drop, List.length_take]; rfl)) ?_
       with_reducible refine (ideal_Alike.calls kj7 _ _ t311 _ _ t314 _ _ t329 _ _ t332 t338 _ ?side1 ?side2 ?side3 ?side4 ?side5 ?side6 ?side7 ?side8 A33.out).mono ?_
       (case side1 => repeat (first | exact (Kd.R_reads' HO_319000.out).2.2 | (with_reducible refine Kd.C_alloc ?_ _) | (with_reducible refine Kd.C_drewN ?_ _) | (with_reducible refine Kd.C_drew ?_)))
       (case side2 => exact (Kd.R_reads' HO_319000.out).2.1)
       (case side3 => repeat (first | exact (Kd.R_reads' HO_319001.out).2.2 | (with_reducible refine Kd.C_alloc ?_ _) | (with_reducible refine Kd.C_drewN ?_ _) | (with_reducible refine Kd.C_drew ?_)))
       (case side4 => exact (Kd.R_reads' HO_319001.out).2.1)
       (case side5 => repeat (first | exact (Kd.R_reads' HO331.out).2.2 | (with_reducible refine Kd.C_alloc ?_ _) | (with_reducible refine Kd.C_drewN ?_ _) | (with_reducible refine Kd.C_drew ?_)))
       (case side6 => exact (Kd.R_reads' HO331.out).2.1)
       (case side7 => repeat (first | exact (Kd.R_reads' HO334.out).2.2 | (with_reducible refine Kd.C_alloc ?_ _) | (with_reducible refine Kd.C_drewN ?_ _) | (with_reducible refine Kd.C_drew ?_)))
       (case side8 => exact (Kd.R_reads' HO334.out).2.1)
       rintro e w60 ⟨rfl, hb⟩
       refine ⟨_, rfl, ?_⟩
       have n0_ := Aside0.mk (Kd.R_below (by (with_reducible repeat (first | apply Kd.R_alloc | apply Kd.R_drewN | apply Kd.R_drew)); exact HO_319000.out) hb)
       have n1_ := Aside0.mk (Kd.R_below (by (with_reducible repeat (first | apply Kd.R_alloc | apply Kd.R_drewN | apply Kd.R_drew)); exact HO_319001.out) hb)
       have n2_ := Aside0.mk (Kd.R_below (by (with_reducible repeat (first | apply Kd.R_alloc | apply Kd.R_drewN | apply Kd.R_drew)); exact HO323.out) hb)
       have n3_ := Aside0.mk (Kd.R_below (by (with_reducible repeat (first | apply Kd.R_alloc | apply Kd.R_drewN | apply Kd.R_drew)); exact HO326.out) hb)
       have n4_ := Aside0.mk (Kd.R_below (by (with_reducible repeat (first | apply Kd.R_alloc | apply Kd.R_drewN | apply Kd.R_drew)); exact HO331.out) hb)
       have n5_ := Aside0.mk (Kd.R_below (by (with_reducible repeat (first | apply Kd.R_alloc | apply Kd.R_drewN | apply Kd.R_drew)); exact HO334.out) hb)
       have n6_ := offertorylaw25_IdealTurns.keepB BK309 hb
       have n7_ := offertorylaw25_IdealTurns.keepB BK310 hb
       have n8_ := offertorylaw25_IdealTurns.keepB BK318 hb
       have n9_ := offertorylaw25_IdealTurns.keepB BK328 hb
       have n10_ := offertorylaw25_IdealTurns.keepB BK336 hb
       have n11_ := Aside0.mk (below_step (by repeat (first | (with_reducible first | exact HB.out | apply below_alloc | apply pw_below_drewN | apply below_drew1 | refine below_set ?_ GE309.out | refine below_set ?_ GE310.out | refine below_set ?_ GE318.out | refine below_set ?_ GE328.out | refine below_set ?_ GE336.out) | exact HB.out)) hb)
       clear HO_319000
       clear HO_319001
       clear HO323
       clear HO326
       clear HO331
       clear HO334
       clear BK309
       clear BK310
       clear BK318
       clear BK328
       clear BK336
       clear HB
       have HO_319000 := n0_
       have HO_319001 := n1_
       have HO323 := n2_
       have HO326 := n3_
       have HO331 := n4_
       have HO334 := n5_
       have BK309 := n6_
       have BK310 := n7_
       have BK318 := n8_
       have BK328 := n9_
       have BK336 := n10_
       have HB := n11_
       clear n0_ n1_ n2_ n3_ n4_ n5_ n6_ n7_ n8_ n9_ n10_ n11_
       (try clear hb)
       (try clear hb2)
       (try clear hk)
       (try clear hi)
       refine hK.out _ _ ⟨(blk_cell BK328.out 0).trans rfl, (blk_cell BK328.out 1).trans rfl, (blk_cell BK309.out 0).trans rfl, (blk_cell BK309.out 1).trans rfl, (blk_cell BK318.out 0).trans rfl, (blk_cell BK318.out 1).trans rfl, (blk_cell BK336.out 0).trans rfl, (blk_cell BK336.out 1).trans rfl, (blk_cell BK310.out 0).trans rfl, (blk_cell BK310.out 1).trans rfl⟩ (fun hHeld => ?_)
       clear hK K
       refine norm_ (a' := ?_) ?_ ?_
       rotate_left
       ·
        show Act.put _ (some 66) _ = _
        simp only [Act.put, List.setIfInBounds_toArray, List.set_cons_zero, List.set_cons_succ, i64_w, i32_w]
        rfl
       refine one_ (i := 16) (N := some 69) #[T, T, T, T, T, T, T, T, T, T, T, T, T, T, T, T, T, F, F, F, F] rfl rfl (one_of HT_.out (by kernel_rfl)) (by decide) (fun K hK => ?_)
       refine goes_ Tryd.func17 (by kernel_rfl) rfl #[.agg #[.slice A2_0 l2_0.length c2_0, .slice A2_1 l2_1.length c2_1], .agg #[.slice A3_0 l3_0.length c3_0, .slice A3_1 l3_1.length c3_1]] (by rfl) rfl rfl (by (try simp only [List.map_toArray, List.map_cons, List.map_nil]); first | done | rfl | (simp only [List.length_drop, List.length_take]; rfl)) ?_
       with_reducible refine (offertorylaw25_alike.calls kj7 _ _ l2_0 _ _ l2_1 _ _ l3_0 _ _ l3_1 t339 _ ?side1 ?side2 ?side3 ?side4 ?side5 ?side6 ?side7 ?side8 A34.out).mono ?_
       (case side1 => repeat (first | exact (Kd.C_below HR2_0.out HB.out) | (with_reducible refine Kd.C_alloc ?_ _) | (with_reducible refine Kd.C_drewN ?_ _) | (with_reducible refine Kd.C_drew ?_)))
       (case side2 => exact HC2_0.out)
       (case side3 => repeat (first | exact (Kd.C_below HR2_1.out HB.out) | (with_reducible refine Kd.C_alloc ?_ _) | (with_reducible refine Kd.C_drewN ?_ _) | (with_reducible refine Kd.C_drew ?_)))
       (case side4 => exact HC2_1.out)
       (case side5 => repeat (first | exact (Kd.C_below HR3_0.out HB.out) | (with_reducible refine Kd.C_alloc ?_ _) | (with_reducible refine Kd.C_drewN ?_ _) | (with_reducible refine Kd.C_drew ?_)))
       (case side6 => exact HC3_0.out)
       (case side7 => repeat (first | exact (Kd.C_below HR3_1.out HB.out) | (with_reducible refine Kd.C_alloc ?_ _) | (with_reducible refine Kd.C_drewN ?_ _) | (with_reducible refine Kd.C_drew ?_)))
       (case side8 => exact HC3_1.out)
       rintro e w61 ⟨rfl, hb⟩
       refine ⟨_, rfl, ?_⟩
       have n0_ := Aside0.mk (Kd.R_below (by (with_reducible repeat (first | apply Kd.R_alloc | apply Kd.R_drewN | apply Kd.R_drew)); exact HO_319000.out) hb)
       have n1_ := Aside0.mk (Kd.R_below (by (with_reducible repeat (first | apply Kd.R_alloc | apply Kd.R_drewN | apply Kd.R_drew)); exact HO_319001.out) hb)
       have n2_ := Aside0.mk (Kd.R_below (by (with_reducible repeat (first | apply Kd.R_alloc | apply Kd.R_drewN | apply Kd.R_drew)); exact HO323.out) hb)
       have n3_ := Aside0.mk (Kd.R_below (by (with_reducible repeat (first | apply Kd.R_alloc | apply Kd.R_drewN | apply Kd.R_drew)); exact HO326.out) hb)
       have n4_ := Aside0.mk (Kd.R_below (by (with_reducible repeat (first | apply Kd.R_alloc | apply Kd.R_drewN | apply Kd.R_drew)); exact HO331.out) hb)
       have n5_ := Aside0.mk (Kd.R_below (by (with_reducible repeat (first | apply Kd.R_alloc | apply Kd.R_drewN | apply Kd.R_drew)); exact HO334.out) hb)
       have n6_ := offertorylaw25_IdealTurns.keepB BK309 hb
       have n7_ := offertorylaw25_IdealTurns.keepB BK310 hb
       have n8_ := offertorylaw25_IdealTurns.keepB BK318 hb
       have n9_ := offertorylaw25_IdealTurns.keepB BK328 hb
       have n10_ := offertorylaw25_IdealTurns.keepB BK336 hb
       have n11_ := Aside0.mk (below_step (by repeat (first | (with_reducible first | exact HB.out | apply below_alloc | apply pw_below_drewN | apply below_drew1 | refine below_set ?_ GE309.out | refine below_set ?_ GE310.out | refine below_set ?_ GE318.out | refine below_set ?_ GE328.out | refine below_set ?_ GE336.out) | exact HB.out)) hb)
       clear HO_319000
       clear HO_319001
       clear HO323
       clear HO326
       clear HO331
       clear HO334
       clear BK309
       clear BK310
       clear BK318
       clear BK328
       clear BK336
       clear HB
       have HO_319000 := n0_
       have HO_319001 := n1_
       have HO323 := n2_
       have HO326 := n3_
       have HO331 := n4_
       have HO334 := n5_
       have BK309 := n6_
       have BK310 := n7_
       have BK318 := n8_
       have BK328 := n9_
       have BK336 := n10_
       have HB := n11_
       clear n0_ n1_ n2_ n3_ n4_ n5_ n6_ n7_ n8_ n9_ n10_ n11_
       (try clear hb)
       (try clear hb2)
       (try clear hk)
       (try clear hi)
       refine hK.out _ _ ⟨(blk_cell BK328.out 0).trans rfl, (blk_cell BK328.out 1).trans rfl, (blk_cell BK309.out 0).trans rfl, (blk_cell BK309.out 1).trans rfl, (blk_cell BK318.out 0).trans rfl, (blk_cell BK318.out 1).trans rfl, (blk_cell BK336.out 0).trans rfl, (blk_cell BK336.out 1).trans rfl, (blk_cell BK310.out 0).trans rfl, (blk_cell BK310.out 1).trans rfl⟩ (fun hHeld => ?_)
       clear hK K
       refine norm_ (a' := ?_) ?_ ?_
       rotate_left
       ·
        show Act.put _ (some 69) _ = _
        simp only [Act.put, List.setIfInBounds_toArray, List.set_cons_zero, List.set_cons_succ, i64_w, i32_w]
        rfl
       refine pure_ (i := 17) (N := some 70) (v := ?_) (a' := ?_) #[T, T, T, T, T, T, T, T, T, T, T, T, T, T, T, T, T, T, F, F, F] rfl rfl (any_of HT_.out (by kernel_rfl)) (fun _ _ _ h => h) (Or.inl ⟨by rfl, ?_⟩) ?_ ?_
       rotate_left
       ·
        intro w'
        (try simp only [add_plain] at s0 s1 s2 s3 s4 s5 s6 s7 s8 s9)
        go_simp
        with_reducible rfl
       rotate_left
       ·
        simp only [Act.put, List.setIfInBounds_toArray, List.set_cons_zero, List.set_cons_succ, i64_w, i32_w]
        rfl
       refine pure_ (i := 18) (N := some 71) (v := ?_) (a' := ?_) #[T, T, T, T, T, T, T, T, T, T, T, T, T, T, T, T, T, T, T, F, F] rfl rfl (any_of HT_.out (by kernel_rfl)) (fun _ _ _ h => h) (Or.inl ⟨by rfl, ?_⟩) ?_ ?_
       rotate_left
       ·
        intro w'
        (try simp only [add_plain] at s0 s1 s2 s3 s4 s5 s6 s7 s8 s9)
        go_simp
        with_reducible rfl
       rotate_left
       ·
        simp only [Act.put, List.setIfInBounds_toArray, List.set_cons_zero, List.set_cons_succ, i64_w, i32_w]
        rfl
       refine pure_ (i := 19) (N := some 72) (v := ?_) (a' := ?_) #[T, T, T, T, T, T, T, T, T, T, T, T, T, T, T, T, T, T, T, T, F] rfl rfl (any_of HT_.out (by kernel_rfl)) (fun _ _ _ h => h) (Or.inl ⟨by rfl, ?_⟩) ?_ ?_
       rotate_left
       ·
        intro w'
        (try simp only [add_plain] at s0 s1 s2 s3 s4 s5 s6 s7 s8 s9)
        go_simp
        with_reducible rfl
       rotate_left
       ·
        simp only [Act.put, List.setIfInBounds_toArray, List.set_cons_zero, List.set_cons_succ, i64_w, i32_w]
        rfl
       refine pure_ (i := 20) (N := some 12) (v := ?_) (a' := ?_) #[T, T, T, T, T, T, T, T, T, T, T, T, T, T, T, T, T, T, T, T, T] rfl rfl (any_of HT_.out (by kernel_rfl)) (fun _ _ _ h => h) (Or.inl ⟨by rfl, ?_⟩) ?_ ?_
       rotate_left
       ·
        intro w'
        (try simp only [add_plain] at s0 s1 s2 s3 s4 s5 s6 s7 s8 s9)
        go_simp
        with_reducible rfl
       rotate_left
       ·
        simp only [Act.put, List.setIfInBounds_toArray, List.set_cons_zero, List.set_cons_succ, i64_w, i32_w]
        rfl
       refine done_ (done_of HT_.out (by kernel_rfl)) ?_
       try go_wp2
       go_ret
       exact ⟨by first | rfl | (simp [errW_none, errW_some] <;> rfl) | (simp [*, errW_none, errW_some] <;> rfl), by repeat (first | (with_reducible first | exact HB.out | apply below_alloc | apply pw_below_drewN | apply below_drew1 | refine below_set ?_ GE309.out | refine below_set ?_ GE310.out | refine below_set ?_ GE318.out | refine below_set ?_ GE328.out | refine below_set ?_ GE336.out) | exact HB.out)⟩
      ·
       rw [if_neg c32] at H
       have c32b0 : (t335 == 0) = false := beq_eq_false_iff_ne.mpr c32
       have c32b1 : (t335 != 0) = true := bne_iff_ne.mpr c32
       obtain rfl := Option.some.inj H
       have hnb62 := NB318_309.out
       have hnc62 := NB309_318.out
       have hnb63 := NB318_310.out
       have hnc63 := NB310_318.out
       have hcz64_0 : wc.cell? ⟨gb318, 0, none⟩ = some (.slice Ao15 t311.length co15) := (blk_cell BK318.out 0).trans rfl
       have hcz64_1 : wc.cell? ⟨gb318, 1, none⟩ = some (.slice Ao19 t314.length co19) := (blk_cell BK318.out 1).trans rfl
       have hfz64_0 := blk_frozen BK318.out 0
       have hfz64_1 := blk_frozen BK318.out 1
       try go_wp2_with (first | ((with_reducible refine gate_callee (f := 16) rfl ?_); refine goesL_ (some 41) rfl rfl Tryd.func16 (by kernel_rfl) rfl #[.slice A1 l1.length c1, .slice A0 l0.length c0, .agg #[.slice Ao15 t311.length co15, .slice Ao19 t314.length co19], .int .u64 a4, .int .u64 a5] rfl (by (try simp only [List.map_toArray, List.map_cons, List.map_nil]); first | done | rfl | (simp only [List.length_drop, List.length_take]; rfl)) ?_; (with_reducible refine (ideal_Turn.calls kj7 _ _ l1 _ _ l0 _ _ t311 _ _ t314 a4 a5 t321 t324 t327 _ ?side1 ?side2 ?side3 ?side4 ?side5 ?side6 ?side7 ?side8 A27.out).mono ?_); (case side1 => repeat (first | exact (Kd.C_below HR1.out HB.out) | (with_reducible refine Kd.C_alloc ?_ _) | (with_reducible refine Kd.C_drewN ?_ _) | (with_reducible refine Kd.C_drew ?_))); (case side2 => exact HC1.out); (case side3 => repeat (first | exact (Kd.C_below HR0.out HB.out) | (with_reducible refine Kd.C_alloc ?_ _) | (with_reducible refine Kd.C_drewN ?_ _) | (with_reducible refine Kd.C_drew ?_))); (case side4 => exact HC0.out); (case side5 => repeat (first | exact (Kd.R_reads' HO_319000.out).2.2 | (with_reducible refine Kd.C_alloc ?_ _) | (with_reducible refine Kd.C_drewN ?_ _) | (with_reducible refine Kd.C_drew ?_))); (case side6 => exact (Kd.R_reads' HO_319000.out).2.1); (case side7 => repeat (first | exact (Kd.R_reads' HO_319001.out).2.2 | (with_reducible refine Kd.C_alloc ?_ _) | (with_reducible refine Kd.C_drewN ?_ _) | (with_reducible refine Kd.C_drew ?_))); (case side8 => exact (Kd.R_reads' HO_319001.out).2.1); rintro e w65 ⟨v322, v325, rfl, ho0, ho1, hb⟩; refine ⟨_, rfl, ?_⟩; have n0_ := Aside0.mk (Kd.R_elder' (by (with_reducible repeat (first | apply Kd.R_alloc | apply Kd.R_drewN | apply Kd.R_drew)); exact HO_319000.out) (Kd.R_base ho0) hb); have n1_ := Aside0.mk (Kd.R_mono (Kd.R_told (Kd.R_told (Kd.R_old (by (with_reducible repeat (first | apply Kd.R_alloc | apply Kd.R_drewN | apply Kd.R_drew)); exact HO_319001.out) hb) (Kd.R_base ho0)) (Kd.R_base ho1)) (fun _ h_ => h_.1)); have n2_ := Aside0.mk (Kd.R_lower (Kd.R_new' ho0 (Kd.R_lt (by (with_reducible repeat (first | apply Kd.R_alloc | apply Kd.R_drewN | apply Kd.R_drew)); exact HO_319000.out))) (below_size (by repeat (first | (with_reducible first | exact HB.out | apply below_alloc | apply pw_below_drewN | apply below_drew1 | refine below_set ?_ GE309.out | refine below_set ?_ GE310.out | refine below_set ?_ GE318.out) | exact HB.out)))); have n3_ := Aside0.mk (Kd.R_lower (Kd.R_new' (Kd.R_new' ho1 (Kd.R_lt (by (with_reducible repeat (first | apply Kd.R_alloc | apply Kd.R_drewN | apply Kd.R_drew)); exact HO_319000.out))) (Kd.R_lt (by (with_reducible repeat (first | apply Kd.R_alloc | apply Kd.R_drewN | apply Kd.R_drew)); exact HO_319001.out))) (below_size (by repeat (first | (with_reducible first | exact HB.out | apply below_alloc | apply pw_below_drewN | apply below_drew1 | refine below_set ?_ GE309.out | refine below_set ?_ GE310.out | refine below_set ?_ GE318.out) | exact HB.out)))); have n4_ := offertorylaw25_IdealTurns.keepB BK309 hb; have n5_ := offertorylaw25_IdealTurns.keepB BK310 hb; have n6_ := offertorylaw25_IdealTurns.keepB BK318 hb; have n7_ := Aside0.mk (below_step (by repeat (first | (with_reducible first | exact HB.out | apply below_alloc | apply pw_below_drewN | apply below_drew1 | refine below_set ?_ GE309.out | refine below_set ?_ GE310.out | refine below_set ?_ GE318.out) | exact HB.out)) hb); clear HO_319000; clear HO_319001; clear BK309; clear BK310; clear BK318; clear HB; have HO_319000 := n0_; have HO_319001 := n1_; have HO323 := n2_; have HO326 := n3_; have BK309 := n4_; have BK310 := n5_; have BK318 := n6_; have HB := n7_; clear n0_ n1_ n2_ n3_ n4_ n5_ n6_ n7_; (try clear hb); (try clear hb2); (try clear hk); (try clear hi); (try clear ho0); (try clear ho1)) | ((with_reducible refine gate_dst (N := 15) rfl ?_); refine box_event ?hg (N := 15) ?hd (cs := #[.slice none 0 0, .slice none 0 0]) (t := 25) ?hr ?_; (case hd => rfl); (case hg => rfl); (case hr => first | (go_simp; done) | (go_simp; rfl)); intro gb328 hg w66 hbox hb; have n0_ := Aside0.mk (Kd.R_below (by (with_reducible repeat (first | apply Kd.R_alloc | apply Kd.R_drewN | apply Kd.R_drew)); exact HO_319000.out) hb); have n1_ := Aside0.mk (Kd.R_below (by (with_reducible repeat (first | apply Kd.R_alloc | apply Kd.R_drewN | apply Kd.R_drew)); exact HO_319001.out) hb); have n2_ := Aside0.mk (Kd.R_below (by (with_reducible repeat (first | apply Kd.R_alloc | apply Kd.R_drewN | apply Kd.R_drew)); exact HO323.out) hb); have n3_ := Aside0.mk (Kd.R_below (by (with_reducible repeat (first | apply Kd.R_alloc | apply Kd.R_drewN | apply Kd.R_drew)); exact HO326.out) hb); have n4_ := offertorylaw25_IdealTurns.keepB BK309 hb; have n5_ := offertorylaw25_IdealTurns.keepB BK310 hb; have n6_ := offertorylaw25_IdealTurns.keepB BK318 hb; have n7_ := Aside0.mk (below_step (by repeat (first | (with_reducible first | exact HB.out | apply below_alloc | apply pw_below_drewN | apply below_drew1 | refine below_set ?_ GE309.out | refine below_set ?_ GE310.out | refine below_set ?_ GE318.out) | exact HB.out)) hb); have n8_ := Aside0.mk (hbox); have n9_ := Aside0.mk ((by rw [hg]; exact (below_size (by repeat (first | (with_reducible first | exact HB.out | apply below_alloc | apply pw_below_drewN | apply below_drew1 | refine below_set ?_ GE309.out | refine below_set ?_ GE310.out | refine below_set ?_ GE318.out) | exact HB.out))) : w.heap.size ≤ gb328)); have n10_ := Aside0.mk ((by rw [hg]; exact (below_size (by repeat (first | (with_reducible first | exact HB.out | apply below_alloc | apply pw_below_drewN | apply below_drew1 | refine below_set ?_ GE309.out | refine below_set ?_ GE310.out | refine below_set ?_ GE318.out) | exact HB.out))) : w.heap.size ≤ gb328)); have n11_ := offertorylaw25_IdealTurns.neL BK309 hg; have n12_ := offertorylaw25_IdealTurns.neG BK309 hg; have n13_ := offertorylaw25_IdealTurns.neL BK310 hg; have n14_ := offertorylaw25_IdealTurns.neG BK310 hg; have n15_ := offertorylaw25_IdealTurns.neL BK318 hg; have n16_ := offertorylaw25_IdealTurns.neG BK318 hg; clear HO_319000; clear HO_319001; clear HO323; clear HO326; clear BK309; clear BK310; clear BK318; clear HB; have HO_319000 := n0_; have HO_319001 := n1_; have HO323 := n2_; have HO326 := n3_; have BK309 := n4_; have BK310 := n5_; have BK318 := n6_; have HB := n7_; have BK328 := n8_; have GW328 := n9_; have GE328 := n10_; have NB309_328 := n11_; have NB328_309 := n12_; have NB310_328 := n13_; have NB328_310 := n14_; have NB318_328 := n15_; have NB328_318 := n16_; clear n0_ n1_ n2_ n3_ n4_ n5_ n6_ n7_ n8_ n9_ n10_ n11_ n12_ n13_ n14_ n15_ n16_; clear hb hbox hg; obtain ⟨Ao67, co67, eo67⟩ := Kd.R_slice HO323.out; subst eo67; have hnb68 := NB328_309.out; have hnc68 := NB309_328.out; have hnb69 := NB328_310.out; have hnc69 := NB310_328.out; have hnb70 := NB328_318.out; have hnc70 := NB318_328.out; have hcz71_0 : w66.cell? ⟨gb328, 0, none⟩ = some (.slice none 0 0) := (blk_cell BK328.out 0).trans rfl; have hcz71_1 : w66.cell? ⟨gb328, 1, none⟩ = some (.slice none 0 0) := (blk_cell BK328.out 1).trans rfl; have hfz71_0 := blk_frozen BK328.out 0; have hfz71_1 := blk_frozen BK328.out 1; obtain ⟨Ao72, co72, eo72⟩ := Kd.R_slice HO326.out; subst eo72; have hnb73 := NB310_309.out; have hnc73 := NB309_310.out; have hcz74_0 : w66.cell? ⟨gb310, 0, none⟩ = some (.slice A3_0 l3_0.length c3_0) := (blk_cell BK310.out 0).trans rfl; have hcz74_1 : w66.cell? ⟨gb310, 1, none⟩ = some (.slice A3_1 l3_1.length c3_1) := (blk_cell BK310.out 1).trans rfl; have hfz74_0 := blk_frozen BK310.out 0; have hfz74_1 := blk_frozen BK310.out 1) | ((with_reducible refine gate_callee (f := 16) rfl ?_); refine goesL_ (some 50) rfl rfl Tryd.func16 (by kernel_rfl) rfl #[.slice A0 l0.length c0, .slice A1 l1.length c1, .agg #[.slice A3_0 l3_0.length c3_0, .slice A3_1 l3_1.length c3_1], .int .u64 a4, .int .u64 a5] rfl (by (try simp only [List.map_toArray, List.map_cons, List.map_nil]); first | done | rfl | (simp only [List.length_drop, List.length_take]; rfl)) ?_; (with_reducible refine (ideal_Turn.calls kj7 _ _ l0 _ _ l1 _ _ l3_0 _ _ l3_1 a4 a5 t329 t332 t335 _ ?side1 ?side2 ?side3 ?side4 ?side5 ?side6 ?side7 ?side8 A28.out).mono ?_); (case side1 => exact Kd.C_below HR0.out (by repeat (first | (with_reducible first | exact HB.out | apply below_alloc | apply pw_below_drewN | apply below_drew1 | refine below_set ?_ GE309.out | refine below_set ?_ GE310.out | refine below_set ?_ GE318.out | refine below_set ?_ GE328.out) | exact HB.out))); (case side2 => exact HC0.out); (case side3 => exact Kd.C_below HR1.out (by repeat (first | (with_reducible first | exact HB.out | apply below_alloc | apply pw_below_drewN | apply below_drew1 | refine below_set ?_ GE309.out | refine below_set ?_ GE310.out | refine below_set ?_ GE318.out | refine below_set ?_ GE328.out) | exact HB.out))); (case side4 => exact HC1.out); (case side5 => exact Kd.C_below HR3_0.out (by repeat (first | (with_reducible first | exact HB.out | apply below_alloc | apply pw_below_drewN | apply below_drew1 | refine below_set ?_ GE309.out | refine below_set ?_ GE310.out | refine below_set ?_ GE318.out | refine below_set ?_ GE328.out) | exact HB.out))); (case side6 => exact HC3_0.out); (case side7 => exact Kd.C_below HR3_1.out (by repeat (first | (with_reducible first | exact HB.out | apply below_alloc | apply pw_below_drewN | apply below_drew1 | refine below_set ?_ GE309.out | refine below_set ?_ GE310.out | refine below_set ?_ GE318.out | refine below_set ?_ GE328.out) | exact HB.out))); (case side8 => exact HC3_1.out); rintro e w75 ⟨v330, v333, rfl, ho0, ho1, hb⟩; refine ⟨_, rfl, ?_⟩; have n0_ := Aside0.mk (Kd.R_elder' (by (with_reducible repeat (first | apply Kd.R_alloc | apply Kd.R_drewN | apply Kd.R_drew)); exact (Kd.R_mono (Kd.R_far (p := ⟨gb328, 1, none⟩) (Kd.R_far (p := ⟨gb328, 0, none⟩) (Kd.R_types HO_319000.out BK328.out (by decide)) (fun _ hk => hk.2) (.slice Ao67 t321.length co67)) (fun _ hk => hk.2) (.slice Ao72 t324.length co72)) (fun _ h_ => h_.1))) (Kd.R_base ho0) hb); have n1_ := Aside0.mk (Kd.R_mono (Kd.R_told (Kd.R_told (Kd.R_old (by (with_reducible repeat (first | apply Kd.R_alloc | apply Kd.R_drewN | apply Kd.R_drew)); exact (Kd.R_mono (Kd.R_far (p := ⟨gb328, 1, none⟩) (Kd.R_far (p := ⟨gb328, 0, none⟩) (Kd.R_types HO_319001.out BK328.out (by decide)) (fun _ hk => hk.2) (.slice Ao67 t321.length co67)) (fun _ hk => hk.2) (.slice Ao72 t324.length co72)) (fun _ h_ => h_.1))) hb) (Kd.R_base ho0)) (Kd.R_base ho1)) (fun _ h_ => h_.1)); have n2_ := Aside0.mk (Kd.R_elder' (by (with_reducible repeat (first | apply Kd.R_alloc | apply Kd.R_drewN | apply Kd.R_drew)); exact (Kd.R_mono (Kd.R_far (p := ⟨gb328, 1, none⟩) (Kd.R_far (p := ⟨gb328, 0, none⟩) (Kd.R_types HO323.out BK328.out (by decide)) (fun _ hk => hk.2) (.slice Ao67 t321.length co67)) (fun _ hk => hk.2) (.slice Ao72 t324.length co72)) (fun _ h_ => h_.1))) (Kd.R_base ho0) hb); have n3_ := Aside0.mk (Kd.R_mono (Kd.R_told (Kd.R_told (Kd.R_old (by (with_reducible repeat (first | apply Kd.R_alloc | apply Kd.R_drewN | apply Kd.R_drew)); exact (Kd.R_mono (Kd.R_far (p := ⟨gb328, 1, none⟩) (Kd.R_far (p := ⟨gb328, 0, none⟩) (Kd.R_types HO326.out BK328.out (by decide)) (fun _ hk => hk.2) (.slice Ao67 t321.length co67)) (fun _ hk => hk.2) (.slice Ao72 t324.length co72)) (fun _ h_ => h_.1))) hb) (Kd.R_base ho0)) (Kd.R_base ho1)) (fun _ h_ => h_.1)); have n4_ := Aside0.mk (Kd.R_lower (Kd.R_new' (Kd.R_new' ho0 (Kd.R_lt (by (with_reducible repeat (first | apply Kd.R_alloc | apply Kd.R_drewN | apply Kd.R_drew)); exact (Kd.R_mono (Kd.R_far (p := ⟨gb328, 1, none⟩) (Kd.R_far (p := ⟨gb328, 0, none⟩) (Kd.R_types HO_319000.out BK328.out (by decide)) (fun _ hk => hk.2) (.slice Ao67 t321.length co67)) (fun _ hk => hk.2) (.slice Ao72 t324.length co72)) (fun _ h_ => h_.1))))) (Kd.R_lt (by (with_reducible repeat (first | apply Kd.R_alloc | apply Kd.R_drewN | apply Kd.R_drew)); exact (Kd.R_mono (Kd.R_far (p := ⟨gb328, 1, none⟩) (Kd.R_far (p := ⟨gb328, 0, none⟩) (Kd.R_types HO323.out BK328.out (by decide)) (fun _ hk => hk.2) (.slice Ao67 t321.length co67)) (fun _ hk => hk.2) (.slice Ao72 t324.length co72)) (fun _ h_ => h_.1))))) (below_size (by repeat (first | (with_reducible first | exact HB.out | apply below_alloc | apply pw_below_drewN | apply below_drew1 | refine below_set ?_ GE309.out | refine below_set ?_ GE310.out | refine below_set ?_ GE318.out | refine below_set ?_ GE328.out) | exact HB.out)))); have n5_ := Aside0.mk (Kd.R_lower (Kd.R_new' (Kd.R_new' (Kd.R_new' (Kd.R_new' ho1 (Kd.R_lt (by (with_reducible repeat (first | apply Kd.R_alloc | apply Kd.R_drewN | apply Kd.R_drew)); exact (Kd.R_mono (Kd.R_far (p := ⟨gb328, 1, none⟩) (Kd.R_far (p := ⟨gb328, 0, none⟩) (Kd.R_types HO_319000.out BK328.out (by decide)) (fun _ hk => hk.2) (.slice Ao67 t321.length co67)) (fun _ hk => hk.2) (.slice Ao72 t324.length co72)) (fun _ h_ => h_.1))))) (Kd.R_lt (by (with_reducible repeat (first | apply Kd.R_alloc | apply Kd.R_drewN | apply Kd.R_drew)); exact (Kd.R_mono (Kd.R_far (p := ⟨gb328, 1, none⟩) (Kd.R_far (p := ⟨gb328, 0, none⟩) (Kd.R_types HO_319001.out BK328.out (by decide)) (fun _ hk => hk.2) (.slice Ao67 t321.length co67)) (fun _ hk => hk.2) (.slice Ao72 t324.length co72)) (fun _ h_ => h_.1))))) (Kd.R_lt (by (with_reducible repeat (first | apply Kd.R_alloc | apply Kd.R_drewN | apply Kd.R_drew)); exact (Kd.R_mono (Kd.R_far (p := ⟨gb328, 1, none⟩) (Kd.R_far (p := ⟨gb328, 0, none⟩) (Kd.R_types HO323.out BK328.out (by decide)) (fun _ hk => hk.2) (.slice Ao67 t321.length co67)) (fun _ hk => hk.2) (.slice Ao72 t324.length co72)) (fun _ h_ => h_.1))))) (Kd.R_lt (by (with_reducible repeat (first | apply Kd.R_alloc | apply Kd.R_drewN | apply Kd.R_drew)); exact (Kd.R_mono (Kd.R_far (p := ⟨gb328, 1, none⟩) (Kd.R_far (p := ⟨gb328, 0, none⟩) (Kd.R_types HO326.out BK328.out (by decide)) (fun _ hk => hk.2) (.slice Ao67 t321.length co67)) (fun _ hk => hk.2) (.slice Ao72 t324.length co72)) (fun _ h_ => h_.1))))) (below_size (by repeat (first | (with_reducible first | exact HB.out | apply below_alloc | apply pw_below_drewN | apply below_drew1 | refine below_set ?_ GE309.out | refine below_set ?_ GE310.out | refine below_set ?_ GE318.out | refine below_set ?_ GE328.out) | exact HB.out)))); have n6_ := Aside0.mk (blk_below (g := gb309) (o := .cells #[.slice A2_0 l2_0.length c2_0, .slice A2_1 l2_1.length c2_1] 25 (0, 0)) (by (repeat (first | (with_reducible first | refine blk_drewN ?_ _ | refine blk_drew ?_ | refine blk_alloc ?_ _) | refine blk_far ?_ NB309_328.out _)); (with_reducible repeat (first | refine blk_drewN ?_ _ | refine blk_drew ?_ | refine blk_alloc ?_ _)); exact BK309.out) hb); have n7_ := Aside0.mk (blk_below (g := gb310) (o := .cells #[.slice A3_0 l3_0.length c3_0, .slice A3_1 l3_1.length c3_1] 25 (0, 0)) (by (repeat (first | (with_reducible first | refine blk_drewN ?_ _ | refine blk_drew ?_ | refine blk_alloc ?_ _) | refine blk_far ?_ NB310_328.out _)); (with_reducible repeat (first | refine blk_drewN ?_ _ | refine blk_drew ?_ | refine blk_alloc ?_ _)); exact BK310.out) hb); have n8_ := Aside0.mk (blk_below (g := gb318) (o := .cells #[.slice Ao15 t311.length co15, .slice Ao19 t314.length co19] 25 (0, 0)) (by (repeat (first | (with_reducible first | refine blk_drewN ?_ _ | refine blk_drew ?_ | refine blk_alloc ?_ _) | refine blk_far ?_ NB318_328.out _)); (with_reducible repeat (first | refine blk_drewN ?_ _ | refine blk_drew ?_ | refine blk_alloc ?_ _)); exact BK318.out) hb); have n9_ := Aside0.mk (blk_below (g := gb328) (o := .cells #[.slice Ao67 t321.length co67, .slice Ao72 t324.length co72] 25 (0, 0)) (by (with_reducible repeat (first | refine blk_drewN ?_ _ | refine blk_drew ?_ | refine blk_alloc ?_ _)); refine blk_put (cs := #[.slice Ao67 t321.length co67, .slice none 0 0]) ?_ 1 _ rfl; (with_reducible repeat (first | refine blk_drewN ?_ _ | refine blk_drew ?_ | refine blk_alloc ?_ _)); refine blk_put (cs := #[.slice none 0 0, .slice none 0 0]) ?_ 0 _ rfl; (with_reducible repeat (first | refine blk_drewN ?_ _ | refine blk_drew ?_ | refine blk_alloc ?_ _)); exact BK328.out) hb); have n10_ := Aside0.mk (below_step (by repeat (first | (with_reducible first | exact HB.out | apply below_alloc | apply pw_below_drewN | apply below_drew1 | refine below_set ?_ GE309.out | refine below_set ?_ GE310.out | refine below_set ?_ GE318.out | refine below_set ?_ GE328.out) | exact HB.out)) hb); clear HO_319000; clear HO_319001; clear HO323; clear HO326; clear BK309; clear BK310; clear BK318; clear BK328; clear HB; have HO_319000 := n0_; have HO_319001 := n1_; have HO323 := n2_; have HO326 := n3_; have HO331 := n4_; have HO334 := n5_; have BK309 := n6_; have BK310 := n7_; have BK318 := n8_; have BK328 := n9_; have HB := n10_; clear n0_ n1_ n2_ n3_ n4_ n5_ n6_ n7_ n8_ n9_ n10_; (try clear hb); (try clear hb2); (try clear hk); (try clear hi); (try clear ho0); (try clear ho1)) | ((with_reducible refine gate_dst (N := 17) rfl ?_); refine box_event ?hg (N := 17) ?hd (cs := #[.slice none 0 0, .slice none 0 0]) (t := 25) ?hr ?_; (case hd => rfl); (case hg => rfl); (case hr => first | (go_simp; done) | (go_simp; rfl)); intro gb336 hg w76 hbox hb; have n0_ := Aside0.mk (Kd.R_below (by (with_reducible repeat (first | apply Kd.R_alloc | apply Kd.R_drewN | apply Kd.R_drew)); exact HO_319000.out) hb); have n1_ := Aside0.mk (Kd.R_below (by (with_reducible repeat (first | apply Kd.R_alloc | apply Kd.R_drewN | apply Kd.R_drew)); exact HO_319001.out) hb); have n2_ := Aside0.mk (Kd.R_below (by (with_reducible repeat (first | apply Kd.R_alloc | apply Kd.R_drewN | apply Kd.R_drew)); exact HO323.out) hb); have n3_ := Aside0.mk (Kd.R_below (by (with_reducible repeat (first | apply Kd.R_alloc | apply Kd.R_drewN | apply Kd.R_drew)); exact HO326.out) hb); have n4_ := Aside0.mk (Kd.R_below (by (with_reducible repeat (first | apply Kd.R_alloc | apply Kd.R_drewN | apply Kd.R_drew)); exact HO331.out) hb); have n5_ := Aside0.mk (Kd.R_below (by (with_reducible repeat (first | apply Kd.R_alloc | apply Kd.R_drewN | apply Kd.R_drew)); exact HO334.out) hb); have n6_ := offertorylaw25_IdealTurns.keepB BK309 hb; have n7_ := offertorylaw25_IdealTurns.keepB BK310 hb; have n8_ := offertorylaw25_IdealTurns.keepB BK318 hb; have n9_ := offertorylaw25_IdealTurns.keepB BK328 hb; have n10_ := Aside0.mk (below_step (by repeat (first | (with_reducible first | exact HB.out | apply below_alloc | apply pw_below_drewN | apply below_drew1 | refine below_set ?_ GE309.out | refine below_set ?_ GE310.out | refine below_set ?_ GE318.out | refine below_set ?_ GE328.out) | exact HB.out)) hb); have n11_ := Aside0.mk (hbox); have n12_ := Aside0.mk ((by rw [hg]; exact (below_size (by repeat (first | (with_reducible first | exact HB.out | apply below_alloc | apply pw_below_drewN | apply below_drew1 | refine below_set ?_ GE309.out | refine below_set ?_ GE310.out | refine below_set ?_ GE318.out | refine below_set ?_ GE328.out) | exact HB.out))) : w.heap.size ≤ gb336)); have n13_ := Aside0.mk ((by rw [hg]; exact (below_size (by repeat (first | (with_reducible first | exact HB.out | apply below_alloc | apply pw_below_drewN | apply below_drew1 | refine below_set ?_ GE309.out | refine below_set ?_ GE310.out | refine below_set ?_ GE318.out | refine below_set ?_ GE328.out) | exact HB.out))) : w.heap.size ≤ gb336)); have n14_ := offertorylaw25_IdealTurns.neL BK309 hg; have n15_ := offertorylaw25_IdealTurns.neG BK309 hg; have n16_ := offertorylaw25_IdealTurns.neL BK310 hg; have n17_ := offertorylaw25_IdealTurns.neG BK310 hg; have n18_ := offertorylaw25_IdealTurns.neL BK318 hg; have n19_ := offertorylaw25_IdealTurns.neG BK318 hg; have n20_ := offertorylaw25_IdealTurns.neL BK328 hg; have n21_ := offertorylaw25_IdealTurns.neG BK328 hg; clear HO_319000; clear HO_319001; clear HO323; clear HO326; clear HO331; clear HO334; clear BK309; clear BK310; clear BK318; clear BK328; clear HB; have HO_319000 := n0_; have HO_319001 := n1_; have HO323 := n2_; have HO326 := n3_; have HO331 := n4_; have HO334 := n5_; have BK309 := n6_; have BK310 := n7_; have BK318 := n8_; have BK328 := n9_; have HB := n10_; have BK336 := n11_; have GW336 := n12_; have GE336 := n13_; have NB309_336 := n14_; have NB336_309 := n15_; have NB310_336 := n16_; have NB336_310 := n17_; have NB318_336 := n18_; have NB336_318 := n19_; have NB328_336 := n20_; have NB336_328 := n21_; clear n0_ n1_ n2_ n3_ n4_ n5_ n6_ n7_ n8_ n9_ n10_ n11_ n12_ n13_ n14_ n15_ n16_ n17_ n18_ n19_ n20_ n21_; clear hb hbox hg; obtain ⟨Ao77, co77, eo77⟩ := Kd.R_slice HO331.out; subst eo77; have hnb78 := NB336_309.out; have hnc78 := NB309_336.out; have hnb79 := NB336_310.out; have hnc79 := NB310_336.out; have hnb80 := NB336_318.out; have hnc80 := NB318_336.out; have hnb81 := NB336_328.out; have hnc81 := NB328_336.out; have hcz82_0 : w76.cell? ⟨gb336, 0, none⟩ = some (.slice none 0 0) := (blk_cell BK336.out 0).trans rfl; have hcz82_1 : w76.cell? ⟨gb336, 1, none⟩ = some (.slice none 0 0) := (blk_cell BK336.out 1).trans rfl; have hfz82_0 := blk_frozen BK336.out 0; have hfz82_1 := blk_frozen BK336.out 1; obtain ⟨Ao83, co83, eo83⟩ := Kd.R_slice HO334.out; subst eo83))
       have n0_ : Aside0 (Kd.R (Kd.slice 37 (Kd.int .u32)) 35 ((w76.setCell ⟨gb336, 0, none⟩ (.slice Ao77 t329.length co77)).setCell ⟨gb336, 1, none⟩ (.slice Ao83 t332.length co83)) w.heap.size (fun k_ => some k_ ≠ (.slice Ao67 t321.length co67 : Value).ownBlock ∧ some k_ ≠ (.slice Ao77 t329.length co77 : Value).ownBlock) (.slice Ao15 t311.length co15) t311) := ⟨by (with_reducible repeat (first | apply Kd.R_alloc | apply Kd.R_drewN | apply Kd.R_drew)); exact Kd.R_mono (Kd.R_far (p := ⟨gb336, 1, none⟩) (Kd.R_far (p := ⟨gb336, 0, none⟩) (Kd.R_types HO_319000.out BK336.out (by decide)) (fun _ hk => hk.2) (.slice Ao77 t329.length co77)) (fun _ hk => hk.2) (.slice Ao83 t332.length co83)) (fun _ hk => ⟨hk.1.1.2, hk.1.2⟩)⟩
       have n1_ : Aside0 (Kd.R (Kd.slice 35 (Kd.slice 37 (Kd.int .u32))) 22 ((w76.setCell ⟨gb336, 0, none⟩ (.slice Ao77 t329.length co77)).setCell ⟨gb336, 1, none⟩ (.slice Ao83 t332.length co83)) w.heap.size (fun k_ => some k_ ≠ (.slice Ao15 t311.length co15 : Value).ownBlock ∧ some k_ ≠ (.slice Ao67 t321.length co67 : Value).ownBlock ∧ some k_ ≠ (.slice Ao72 t324.length co72 : Value).ownBlock ∧ some k_ ≠ (.slice Ao77 t329.length co77 : Value).ownBlock ∧ some k_ ≠ (.slice Ao83 t332.length co83 : Value).ownBlock) (.slice Ao19 t314.length co19) t314) := ⟨by (with_reducible repeat (first | apply Kd.R_alloc | apply Kd.R_drewN | apply Kd.R_drew)); exact Kd.R_mono (Kd.R_far (p := ⟨gb336, 1, none⟩) (Kd.R_far (p := ⟨gb336, 0, none⟩) (Kd.R_types HO_319001.out BK336.out (by decide)) (fun _ hk => hk.2) (.slice Ao77 t329.length co77)) (fun _ hk => hk.2) (.slice Ao83 t332.length co83)) (fun _ hk => ⟨hk.1.1.1.1.1, ⟨hk.1.1.1.1.2, ⟨hk.1.1.1.2, ⟨hk.1.1.2, hk.1.2⟩⟩⟩⟩)⟩
       have n2_ : Aside0 (Kd.R (Kd.slice 37 (Kd.int .u32)) 35 ((w76.setCell ⟨gb336, 0, none⟩ (.slice Ao77 t329.length co77)).setCell ⟨gb336, 1, none⟩ (.slice Ao83 t332.length co83)) w.heap.size (fun k_ => some k_ ≠ (.slice Ao15 t311.length co15 : Value).ownBlock ∧ some k_ ≠ (.slice Ao77 t329.length co77 : Value).ownBlock) (.slice Ao67 t321.length co67) t321) := ⟨by (with_reducible repeat (first | apply Kd.R_alloc | apply Kd.R_drewN | apply Kd.R_drew)); exact Kd.R_mono (Kd.R_far (p := ⟨gb336, 1, none⟩) (Kd.R_far (p := ⟨gb336, 0, none⟩) (Kd.R_types HO323.out BK336.out (by decide)) (fun _ hk => hk.2) (.slice Ao77 t329.length co77)) (fun _ hk => hk.2) (.slice Ao83 t332.length co83)) (fun _ hk => ⟨hk.1.1.2, hk.1.2⟩)⟩
       have n3_ : Aside0 (Kd.R (Kd.slice 35 (Kd.slice 37 (Kd.int .u32))) 22 ((w76.setCell ⟨gb336, 0, none⟩ (.slice Ao77 t329.length co77)).setCell ⟨gb336, 1, none⟩ (.slice Ao83 t332.length co83)) w.heap.size (fun k_ => some k_ ≠ (.slice Ao15 t311.length co15 : Value).ownBlock ∧ some k_ ≠ (.slice Ao19 t314.length co19 : Value).ownBlock ∧ some k_ ≠ (.slice Ao67 t321.length co67 : Value).ownBlock ∧ some k_ ≠ (.slice Ao77 t329.length co77 : Value).ownBlock ∧ some k_ ≠ (.slice Ao83 t332.length co83 : Value).ownBlock) (.slice Ao72 t324.length co72) t324) := ⟨by (with_reducible repeat (first | apply Kd.R_alloc | apply Kd.R_drewN | apply Kd.R_drew)); exact Kd.R_mono (Kd.R_far (p := ⟨gb336, 1, none⟩) (Kd.R_far (p := ⟨gb336, 0, none⟩) (Kd.R_types HO326.out BK336.out (by decide)) (fun _ hk => hk.2) (.slice Ao77 t329.length co77)) (fun _ hk => hk.2) (.slice Ao83 t332.length co83)) (fun _ hk => ⟨hk.1.1.1.1.2, ⟨hk.1.1.1.2, ⟨hk.1.1.1.1.1, ⟨hk.1.1.2, hk.1.2⟩⟩⟩⟩)⟩
       have n4_ : Aside0 (Kd.R (Kd.slice 37 (Kd.int .u32)) 35 ((w76.setCell ⟨gb336, 0, none⟩ (.slice Ao77 t329.length co77)).setCell ⟨gb336, 1, none⟩ (.slice Ao83 t332.length co83)) w.heap.size (fun k_ => some k_ ≠ (.slice Ao15 t311.length co15 : Value).ownBlock ∧ some k_ ≠ (.slice Ao67 t321.length co67 : Value).ownBlock) (.slice Ao77 t329.length co77) t329) := ⟨by (with_reducible repeat (first | apply Kd.R_alloc | apply Kd.R_drewN | apply Kd.R_drew)); exact Kd.R_mono (Kd.R_far (p := ⟨gb336, 1, none⟩) (Kd.R_far (p := ⟨gb336, 0, none⟩) (Kd.R_types HO331.out BK336.out (by decide)) (fun _ hk => hk.2) (.slice Ao77 t329.length co77)) (fun _ hk => hk.2) (.slice Ao83 t332.length co83)) (fun _ hk => ⟨hk.1.1.2, hk.1.2⟩)⟩
       have n5_ : Aside0 (Kd.R (Kd.slice 35 (Kd.slice 37 (Kd.int .u32))) 22 ((w76.setCell ⟨gb336, 0, none⟩ (.slice Ao77 t329.length co77)).setCell ⟨gb336, 1, none⟩ (.slice Ao83 t332.length co83)) w.heap.size (fun k_ => some k_ ≠ (.slice Ao15 t311.length co15 : Value).ownBlock ∧ some k_ ≠ (.slice Ao19 t314.length co19 : Value).ownBlock ∧ some k_ ≠ (.slice Ao67 t321.length co67 : Value).ownBlock ∧ some k_ ≠ (.slice Ao72 t324.length co72 : Value).ownBlock ∧ some k_ ≠ (.slice Ao77 t329.length co77 : Value).ownBlock) (.slice Ao83 t332.length co83) t332) := ⟨by (with_reducible repeat (first | apply Kd.R_alloc | apply Kd.R_drewN | apply Kd.R_drew)); exact Kd.R_mono (Kd.R_far (p := ⟨gb336, 1, none⟩) (Kd.R_far (p := ⟨gb336, 0, none⟩) (Kd.R_types HO334.out BK336.out (by decide)) (fun _ hk => hk.2) (.slice Ao77 t329.length co77)) (fun _ hk => hk.2) (.slice Ao83 t332.length co83)) (fun _ hk => ⟨hk.1.1.1.1.2, ⟨hk.1.1.1.2, ⟨hk.1.1.2, ⟨hk.1.2, hk.1.1.1.1.1⟩⟩⟩⟩)⟩
       have n6_ : Aside0 (((w76.setCell ⟨gb336, 0, none⟩ (.slice Ao77 t329.length co77)).setCell ⟨gb336, 1, none⟩ (.slice Ao83 t332.length co83)).heap[gb309]? = some (.cells #[.slice A2_0 l2_0.length c2_0, .slice A2_1 l2_1.length c2_1] 25 (0, 0))) := ⟨by (repeat (first | (with_reducible first | refine blk_drewN ?_ _ | refine blk_drew ?_ | refine blk_alloc ?_ _) | refine blk_far ?_ NB309_336.out _)); (with_reducible repeat (first | refine blk_drewN ?_ _ | refine blk_drew ?_ | refine blk_alloc ?_ _)); exact BK309.out⟩
       have n7_ : Aside0 (((w76.setCell ⟨gb336, 0, none⟩ (.slice Ao77 t329.length co77)).setCell ⟨gb336, 1, none⟩ (.slice Ao83 t332.length co83)).heap[gb310]? = some (.cells #[.slice A3_0 l3_0.length c3_0, .slice A3_1 l3_1.length c3_1] 25 (0, 0))) := ⟨by (repeat (first | (with_reducible first | refine blk_drewN ?_ _ | refine blk_drew ?_ | refine blk_alloc ?_ _) | refine blk_far ?_ NB310_336.out _)); (with_reducible repeat (first | refine blk_drewN ?_ _ | refine blk_drew ?_ | refine blk_alloc ?_ _)); exact BK310.out⟩
       have n8_ : Aside0 (((w76.setCell ⟨gb336, 0, none⟩ (.slice Ao77 t329.length co77)).setCell ⟨gb336, 1, none⟩ (.slice Ao83 t332.length co83)).heap[gb318]? = some (.cells #[.slice Ao15 t311.length co15, .slice Ao19 t314.length co19] 25 (0, 0))) := ⟨by (repeat (first | (with_reducible first | refine blk_drewN ?_ _ | refine blk_drew ?_ | refine blk_alloc ?_ _) | refine blk_far ?_ NB318_336.out _)); (with_reducible repeat (first | refine blk_drewN ?_ _ | refine blk_drew ?_ | refine blk_alloc ?_ _)); exact BK318.out⟩
       have n9_ : Aside0 (((w76.setCell ⟨gb336, 0, none⟩ (.slice Ao77 t329.length co77)).setCell ⟨gb336, 1, none⟩ (.slice Ao83 t332.length co83)).heap[gb328]? = some (.cells #[.slice Ao67 t321.length co67, .slice Ao72 t324.length co72] 25 (0, 0))) := ⟨by (repeat (first | (with_reducible first | refine blk_drewN ?_ _ | refine blk_drew ?_ | refine blk_alloc ?_ _) | refine blk_far ?_ NB328_336.out _)); (with_reducible repeat (first | refine blk_drewN ?_ _ | refine blk_drew ?_ | refine blk_alloc ?_ _)); exact BK328.out⟩
       have n10_ : Aside0 (((w76.setCell ⟨gb336, 0, none⟩ (.slice Ao77 t329.length co77)).setCell ⟨gb336, 1, none⟩ (.slice Ao83 t332.length co83)).heap[gb336]? = some (.cells #[.slice Ao77 t329.length co77, .slice Ao83 t332.length co83] 25 (0, 0))) := ⟨by (with_reducible repeat (first | refine blk_drewN ?_ _ | refine blk_drew ?_ | refine blk_alloc ?_ _)); refine blk_put (cs := #[.slice Ao77 t329.length co77, .slice none 0 0]) ?_ 1 _ rfl; (with_reducible repeat (first | refine blk_drewN ?_ _ | refine blk_drew ?_ | refine blk_alloc ?_ _)); refine blk_put (cs := #[.slice none 0 0, .slice none 0 0]) ?_ 0 _ rfl; (with_reducible repeat (first | refine blk_drewN ?_ _ | refine blk_drew ?_ | refine blk_alloc ?_ _)); exact BK336.out⟩
       have n11_ : Aside0 (Below w.heap.size w ((w76.setCell ⟨gb336, 0, none⟩ (.slice Ao77 t329.length co77)).setCell ⟨gb336, 1, none⟩ (.slice Ao83 t332.length co83))) := ⟨by repeat (first | (with_reducible first | exact HB.out | apply below_alloc | apply pw_below_drewN | apply below_drew1 | refine below_set ?_ GE309.out | refine below_set ?_ GE310.out | refine below_set ?_ GE318.out | refine below_set ?_ GE328.out | refine below_set ?_ GE336.out) | exact HB.out)⟩
       (try clear HO_319000)
       (try clear HO_319001)
       (try clear HO323)
       (try clear HO326)
       (try clear HO331)
       (try clear HO334)
       (try clear BK309)
       (try clear BK310)
       (try clear BK318)
       (try clear BK328)
       (try clear BK336)
       (try clear HB)
       generalize ((w76.setCell ⟨gb336, 0, none⟩ (.slice Ao77 t329.length co77)).setCell ⟨gb336, 1, none⟩ (.slice Ao83 t332.length co83)) = w84 at n0_ n1_ n2_ n3_ n4_ n5_ n6_ n7_ n8_ n9_ n10_ n11_ ⊢
       have HO_319000 := n0_
       have HO_319001 := n1_
       have HO323 := n2_
       have HO326 := n3_
       have HO331 := n4_
       have HO334 := n5_
       have BK309 := n6_
       have BK310 := n7_
       have BK318 := n8_
       have BK328 := n9_
       have BK336 := n10_
       have HB := n11_
       clear n0_ n1_ n2_ n3_ n4_ n5_ n6_ n7_ n8_ n9_ n10_ n11_
       have n0_ := Aside0.mk (Kd.R_drew HO_319000.out)
       have n1_ := Aside0.mk (Kd.R_drew HO_319001.out)
       have n2_ := Aside0.mk (Kd.R_drew HO323.out)
       have n3_ := Aside0.mk (Kd.R_drew HO326.out)
       have n4_ := Aside0.mk (Kd.R_drew HO331.out)
       have n5_ := Aside0.mk (Kd.R_drew HO334.out)
       have n6_ := Aside0.mk (blk_drew BK309.out)
       have n7_ := Aside0.mk (blk_drew BK310.out)
       have n8_ := Aside0.mk (blk_drew BK318.out)
       have n9_ := Aside0.mk (blk_drew BK328.out)
       have n10_ := Aside0.mk (blk_drew BK336.out)
       have n11_ := Aside0.mk (below_drew1 HB.out)
       clear HO_319000
       clear HO_319001
       clear HO323
       clear HO326
       clear HO331
       clear HO334
       clear BK309
       clear BK310
       clear BK318
       clear BK328
       clear BK336
       clear HB
       have HO_319000 := n0_
       have HO_319001 := n1_
       have HO323 := n2_
       have HO326 := n3_
       have HO331 := n4_
       have HO334 := n5_
       have BK309 := n6_
       have BK310 := n7_
       have BK318 := n8_
       have BK328 := n9_
       have BK336 := n10_
       have HB := n11_
       clear n0_ n1_ n2_ n3_ n4_ n5_ n6_ n7_ n8_ n9_ n10_ n11_
       refine start_ (n := 21) (S := fun w' => w'.cell? ⟨gb328, 0, none⟩ = some (.slice Ao67 t321.length co67) ∧ w'.cell? ⟨gb328, 1, none⟩ = some (.slice Ao72 t324.length co72) ∧ w'.cell? ⟨gb309, 0, none⟩ = some (.slice A2_0 l2_0.length c2_0) ∧ w'.cell? ⟨gb309, 1, none⟩ = some (.slice A2_1 l2_1.length c2_1)) (ds := []) #[F, F, F, F, F, F, F, F, F, F, F, F, F, F, F, F, F, F, F, F, F] (by kernel_rfl) rfl rfl ⟨(blk_cell BK328.out 0).trans rfl, (blk_cell BK328.out 1).trans rfl, (blk_cell BK309.out 0).trans rfl, (blk_cell BK309.out 1).trans rfl⟩ (fun hHeld => ?_); refine with_tabW offertorylaw25_IdealTurns.tab6 offertorylaw25_IdealTurns.bits6 (fun HT_ HW_ => ?_)
       generalize w84.drew = w85 at HO_319000 HO_319001 HO323 HO326 HO331 HO334 BK309 BK310 BK318 BK328 BK336 HB hHeld ⊢
       refine pure_ (i := 0) (N := some 53) (v := ?_) (a' := ?_) #[T, F, F, F, F, F, F, F, F, F, F, F, F, F, F, F, F, F, F, F, F] rfl rfl (any_of HT_.out (by kernel_rfl)) (fun _ _ _ h => h) (Or.inl ⟨by rfl, ?_⟩) ?_ ?_
       rotate_left
       ·
        intro w'
        (try simp only [add_plain] at s0 s1 s2 s3)
        go_simp
        with_reducible rfl
       rotate_left
       ·
        simp only [Act.put, List.setIfInBounds_toArray, List.set_cons_zero, List.set_cons_succ, i64_w, i32_w]
        rfl
       refine pure_ (i := 1) (N := some 54) (v := ?_) (a' := ?_) #[T, T, F, F, F, F, F, F, F, F, F, F, F, F, F, F, F, F, F, F, F] rfl rfl (any_of HT_.out (by kernel_rfl)) (fun _ _ _ h => h) (Or.inl ⟨by rfl, ?_⟩) ?_ ?_
       rotate_left
       ·
        intro w'
        (try simp only [add_plain] at s0 s1 s2 s3)
        go_simp
        with_reducible rfl
       rotate_left
       ·
        simp only [Act.put, List.setIfInBounds_toArray, List.set_cons_zero, List.set_cons_succ, i64_w, i32_w]
        rfl
       refine pure_ (i := 2) (N := some 55) (v := ?_) (a' := ?_) #[T, T, T, F, F, F, F, F, F, F, F, F, F, F, F, F, F, F, F, F, F] rfl rfl (any_of HT_.out (by kernel_rfl)) (fun _ _ _ h => h) (Or.inl ⟨by rfl, ?_⟩) ?_ ?_
       rotate_left
       ·
        intro w'
        (try simp only [add_plain] at s0 s1 s2 s3)
        go_simp
        with_reducible rfl
       rotate_left
       ·
        simp only [Act.put, List.setIfInBounds_toArray, List.set_cons_zero, List.set_cons_succ, i64_w, i32_w]
        rfl
       refine take_ (i := 3) (N := some 56) (v := ?_) (a' := ?_) #[T, T, T, T, F, F, F, F, F, F, F, F, F, F, F, F, F, F, F, F, F] rfl rfl (take_ofW HT_.out HW_.out (by kernel_rfl)) (fun _ _ _ h => h) (Or.inl ⟨by rfl, ?_⟩) hHeld ?_ ?_
       rotate_left
       ·
        rintro w' ⟨s0, s1, s2, s3⟩
        (try simp only [add_plain] at s0 s1 s2 s3)
        go_simp
        with_reducible rfl
       rotate_left
       ·
        simp only [Act.put, List.setIfInBounds_toArray, List.set_cons_zero, List.set_cons_succ, i64_w, i32_w]
        rfl
       refine take_ (i := 4) (N := some 57) (v := ?_) (a' := ?_) #[T, T, T, T, T, F, F, F, F, F, F, F, F, F, F, F, F, F, F, F, F] rfl rfl (take_ofW HT_.out HW_.out (by kernel_rfl)) (fun _ _ _ h => h) (Or.inl ⟨by rfl, ?_⟩) hHeld ?_ ?_
       rotate_left
       ·
        rintro w' ⟨s0, s1, s2, s3⟩
        (try simp only [add_plain] at s0 s1 s2 s3)
        go_simp
        with_reducible rfl
       rotate_left
       ·
        simp only [Act.put, List.setIfInBounds_toArray, List.set_cons_zero, List.set_cons_succ, i64_w, i32_w]
        rfl
       refine one_ (i := 5) (N := some 58) #[T, T, T, T, T, T, F, F, F, F, F, F, F, F, F, F, F, F, F, F, F] rfl rfl (one_of HT_.out (by kernel_rfl)) (by decide) (fun K hK => ?_)
       refine goes_ Tryd.func19 (by kernel_rfl) rfl #[.agg #[.slice Ao67 t321.length co67, .slice Ao72 t324.length co72], .agg #[.slice A2_0 l2_0.length c2_0, .slice A2_1 l2_1.length c2_1]] (by rfl) rfl rfl (by (try simp only [List.map_toArray, List.map_cons, List.map_nil]); first | done | rfl | (simp only [List.length_drop, List.length_take]; rfl)) ?_
       with_reducible refine (ideal_Alike.calls kj7 _ _ t321 _ _ t324 _ _ l2_0 _ _ l2_1 true _ ?side1 ?side2 ?side3 ?side4 ?side5 ?side6 ?side7 ?side8 A30.out).mono ?_
       (case side1 => repeat (first | exact (Kd.R_reads' HO323.out).2.2 | (with_reducible refine Kd.C_alloc ?_ _) | (with_reducible refine Kd.C_drewN ?_ _) | (with_reducible refine Kd.C_drew ?_)))
       (case side2 => exact (Kd.R_reads' HO323.out).2.1)
       (case side3 => repeat (first | exact (Kd.R_reads' HO326.out).2.2 | (with_reducible refine Kd.C_alloc ?_ _) | (with_reducible refine Kd.C_drewN ?_ _) | (with_reducible refine Kd.C_drew ?_)))
       (case side4 => exact (Kd.R_reads' HO326.out).2.1)
       (case side5 => repeat (first | exact (Kd.C_below HR2_0.out HB.out) | (with_reducible refine Kd.C_alloc ?_ _) | (with_reducible refine Kd.C_drewN ?_ _) | (with_reducible refine Kd.C_drew ?_)))
       (case side6 => exact HC2_0.out)
       (case side7 => repeat (first | exact (Kd.C_below HR2_1.out HB.out) | (with_reducible refine Kd.C_alloc ?_ _) | (with_reducible refine Kd.C_drewN ?_ _) | (with_reducible refine Kd.C_drew ?_)))
       (case side8 => exact HC2_1.out)
       rintro e w86 ⟨rfl, hb⟩
       refine ⟨_, rfl, ?_⟩
       have n0_ := Aside0.mk (Kd.R_below (by (with_reducible repeat (first | apply Kd.R_alloc | apply Kd.R_drewN | apply Kd.R_drew)); exact HO_319000.out) hb)
       have n1_ := Aside0.mk (Kd.R_below (by (with_reducible repeat (first | apply Kd.R_alloc | apply Kd.R_drewN | apply Kd.R_drew)); exact HO_319001.out) hb)
       have n2_ := Aside0.mk (Kd.R_below (by (with_reducible repeat (first | apply Kd.R_alloc | apply Kd.R_drewN | apply Kd.R_drew)); exact HO323.out) hb)
       have n3_ := Aside0.mk (Kd.R_below (by (with_reducible repeat (first | apply Kd.R_alloc | apply Kd.R_drewN | apply Kd.R_drew)); exact HO326.out) hb)
       have n4_ := Aside0.mk (Kd.R_below (by (with_reducible repeat (first | apply Kd.R_alloc | apply Kd.R_drewN | apply Kd.R_drew)); exact HO331.out) hb)
       have n5_ := Aside0.mk (Kd.R_below (by (with_reducible repeat (first | apply Kd.R_alloc | apply Kd.R_drewN | apply Kd.R_drew)); exact HO334.out) hb)
       have n6_ := offertorylaw25_IdealTurns.keepB BK309 hb
       have n7_ := offertorylaw25_IdealTurns.keepB BK310 hb
       have n8_ := offertorylaw25_IdealTurns.keepB BK318 hb
       have n9_ := offertorylaw25_IdealTurns.keepB BK328 hb
       have n10_ := offertorylaw25_IdealTurns.keepB BK336 hb
       have n11_ := Aside0.mk (below_step (by repeat (first | (with_reducible first | exact HB.out | apply below_alloc | apply pw_below_drewN | apply below_drew1 | refine below_set ?_ GE309.out | refine below_set ?_ GE310.out | refine below_set ?_ GE318.out | refine below_set ?_ GE328.out | refine below_set ?_ GE336.out) | exact HB.out)) hb)
       clear HO_319000
       clear HO_319001
       clear HO323
       clear HO326
       clear HO331
       clear HO334
       clear BK309
       clear BK310
       clear BK318
       clear BK328
       clear BK336
       clear HB
       have HO_319000 := n0_
       have HO_319001 := n1_
       have HO323 := n2_
       have HO326 := n3_
       have HO331 := n4_
       have HO334 := n5_
       have BK309 := n6_
       have BK310 := n7_
       have BK318 := n8_
       have BK328 := n9_
       have BK336 := n10_
       have HB := n11_
       clear n0_ n1_ n2_ n3_ n4_ n5_ n6_ n7_ n8_ n9_ n10_ n11_
       (try clear hb)
       (try clear hb2)
       (try clear hk)
       (try clear hi)
       refine hK.out _ _ ⟨(blk_cell BK328.out 0).trans rfl, (blk_cell BK328.out 1).trans rfl, (blk_cell BK309.out 0).trans rfl, (blk_cell BK309.out 1).trans rfl⟩ (fun hHeld => ?_)
       clear hK K
       refine norm_ (a' := ?_) ?_ ?_
       rotate_left
       ·
        show Act.put _ (some 58) _ = _
        simp only [Act.put, List.setIfInBounds_toArray, List.set_cons_zero, List.set_cons_succ, i64_w, i32_w]
        rfl
       refine pure_ (i := 6) (N := some 59) (v := ?_) (a' := ?_) #[T, T, T, T, T, T, T, F, F, F, F, F, F, F, F, F, F, F, F, F, F] rfl rfl (any_of HT_.out (by kernel_rfl)) (fun _ _ _ h => h) (Or.inl ⟨by rfl, ?_⟩) ?_ ?_
       rotate_left
       ·
        intro w'
        (try simp only [add_plain] at s0 s1 s2 s3)
        go_simp
        with_reducible rfl
       rotate_left
       ·
        simp only [Act.put, List.setIfInBounds_toArray, List.set_cons_zero, List.set_cons_succ, i64_w, i32_w]
        rfl
       refine pure_ (i := 7) (N := some 60) (v := ?_) (a' := ?_) #[T, T, T, T, T, T, T, T, F, F, F, F, F, F, F, F, F, F, F, F, F] rfl rfl (any_of HT_.out (by kernel_rfl)) (fun _ _ _ h => h) (Or.inl ⟨by rfl, ?_⟩) ?_ ?_
       rotate_left
       ·
        intro w'
        (try simp only [add_plain] at s0 s1 s2 s3)
        go_simp
        with_reducible rfl
       rotate_left
       ·
        simp only [Act.put, List.setIfInBounds_toArray, List.set_cons_zero, List.set_cons_succ, i64_w, i32_w]
        rfl
       refine pure_ (i := 8) (N := some 61) (v := ?_) (a' := ?_) #[T, T, T, T, T, T, T, T, T, F, F, F, F, F, F, F, F, F, F, F, F] rfl rfl (any_of HT_.out (by kernel_rfl)) (fun _ _ _ h => h) (Or.inl ⟨by rfl, ?_⟩) ?_ ?_
       rotate_left
       ·
        intro w'
        (try simp only [add_plain] at s0 s1 s2 s3)
        go_simp
        with_reducible rfl
       rotate_left
       ·
        simp only [Act.put, List.setIfInBounds_toArray, List.set_cons_zero, List.set_cons_succ, i64_w, i32_w]
        rfl
       refine pure_ (i := 9) (N := some 62) (v := ?_) (a' := ?_) #[T, T, T, T, T, T, T, T, T, T, F, F, F, F, F, F, F, F, F, F, F] rfl rfl (any_of HT_.out (by kernel_rfl)) (fun _ _ _ h => h) (Or.inl ⟨by rfl, ?_⟩) ?_ ?_
       rotate_left
       ·
        intro w'
        (try simp only [add_plain] at s0 s1 s2 s3)
        go_simp
        with_reducible rfl
       rotate_left
       ·
        simp only [Act.put, List.setIfInBounds_toArray, List.set_cons_zero, List.set_cons_succ, i64_w, i32_w]
        rfl
       refine pure_ (i := 10) (N := some 63) (v := ?_) (a' := ?_) #[T, T, T, T, T, T, T, T, T, T, T, F, F, F, F, F, F, F, F, F, F] rfl rfl (any_of HT_.out (by kernel_rfl)) (fun _ _ _ h => h) (Or.inl ⟨by rfl, ?_⟩) ?_ ?_
       rotate_left
       ·
        intro w'
        (try simp only [add_plain] at s0 s1 s2 s3)
        go_simp
        with_reducible rfl
       rotate_left
       ·
        simp only [Act.put, List.setIfInBounds_toArray, List.set_cons_zero, List.set_cons_succ, i64_w, i32_w]
        rfl
       refine pure_ (i := 11) (N := some 64) (v := undef) (a' := ?_) #[T, T, T, T, T, T, T, T, T, T, T, T, F, F, F, F, F, F, F, F, F] rfl rfl (any_of HT_.out (by kernel_rfl)) (fun _ _ _ h => h) (Or.inr ⟨by rfl, rfl⟩) ?_ ?_
       rotate_left
       ·
        simp only [Act.put, List.setIfInBounds_toArray, List.set_cons_zero, List.set_cons_succ, i64_w, i32_w]
        rfl
       refine pure_ (i := 12) (N := some 65) (v := undef) (a' := ?_) #[T, T, T, T, T, T, T, T, T, T, T, T, T, F, F, F, F, F, F, F, F] rfl rfl (any_of HT_.out (by kernel_rfl)) (fun _ _ _ h => h) (Or.inr ⟨by rfl, rfl⟩) ?_ ?_
       rotate_left
       ·
        simp only [Act.put, List.setIfInBounds_toArray, List.set_cons_zero, List.set_cons_succ, i64_w, i32_w]
        rfl
       refine pure_ (i := 13) (N := some 66) (v := undef) (a' := ?_) #[T, T, T, T, T, T, T, T, T, T, T, T, T, T, F, F, F, F, F, F, F] rfl rfl (any_of HT_.out (by kernel_rfl)) (fun _ _ _ h => h) (Or.inr ⟨by rfl, rfl⟩) ?_ ?_
       rotate_left
       ·
        simp only [Act.put, List.setIfInBounds_toArray, List.set_cons_zero, List.set_cons_succ, i64_w, i32_w]
        rfl
       refine pure_ (i := 14) (N := some 67) (v := undef) (a' := ?_) #[T, T, T, T, T, T, T, T, T, T, T, T, T, T, T, F, F, F, F, F, F] rfl rfl (any_of HT_.out (by kernel_rfl)) (fun _ _ _ h => h) (Or.inr ⟨by rfl, rfl⟩) ?_ ?_
       rotate_left
       ·
        simp only [Act.put, List.setIfInBounds_toArray, List.set_cons_zero, List.set_cons_succ, i64_w, i32_w]
        rfl
       refine pure_ (i := 15) (N := some 68) (v := undef) (a' := ?_) #[T, T, T, T, T, T, T, T, T, T, T, T, T, T, T, T, F, F, F, F, F] rfl rfl (any_of HT_.out (by kernel_rfl)) (fun _ _ _ h => h) (Or.inr ⟨by rfl, rfl⟩) ?_ ?_
       rotate_left
       ·
        simp only [Act.put, List.setIfInBounds_toArray, List.set_cons_zero, List.set_cons_succ, i64_w, i32_w]
        rfl
       refine pure_ (i := 16) (N := some 69) (v := undef) (a' := ?_) #[T, T, T, T, T, T, T, T, T, T, T, T, T, T, T, T, T, F, F, F, F] rfl rfl (any_of HT_.out (by kernel_rfl)) (fun _ _ _ h => h) (Or.inr ⟨by rfl, rfl⟩) ?_ ?_
       rotate_left
       ·
        simp only [Act.put, List.setIfInBounds_toArray, List.set_cons_zero, List.set_cons_succ, i64_w, i32_w]
        rfl
       refine pure_ (i := 17) (N := some 70) (v := undef) (a' := ?_) #[T, T, T, T, T, T, T, T, T, T, T, T, T, T, T, T, T, T, F, F, F] rfl rfl (any_of HT_.out (by kernel_rfl)) (fun _ _ _ h => h) (Or.inr ⟨by rfl, rfl⟩) ?_ ?_
       rotate_left
       ·
        simp only [Act.put, List.setIfInBounds_toArray, List.set_cons_zero, List.set_cons_succ, i64_w, i32_w]
        rfl
       refine pure_ (i := 18) (N := some 71) (v := ?_) (a' := ?_) #[T, T, T, T, T, T, T, T, T, T, T, T, T, T, T, T, T, T, T, F, F] rfl rfl (any_of HT_.out (by kernel_rfl)) (fun _ _ _ h => h) (Or.inl ⟨by rfl, ?_⟩) ?_ ?_
       rotate_left
       ·
        intro w'
        (try simp only [add_plain] at s0 s1 s2 s3)
        go_simp
        with_reducible rfl
       rotate_left
       ·
        simp only [Act.put, List.setIfInBounds_toArray, List.set_cons_zero, List.set_cons_succ, i64_w, i32_w]
        rfl
       refine pure_ (i := 19) (N := some 72) (v := ?_) (a' := ?_) #[T, T, T, T, T, T, T, T, T, T, T, T, T, T, T, T, T, T, T, T, F] rfl rfl (any_of HT_.out (by kernel_rfl)) (fun _ _ _ h => h) (Or.inl ⟨by rfl, ?_⟩) ?_ ?_
       rotate_left
       ·
        intro w'
        (try simp only [add_plain] at s0 s1 s2 s3)
        go_simp
        with_reducible rfl
       rotate_left
       ·
        simp only [Act.put, List.setIfInBounds_toArray, List.set_cons_zero, List.set_cons_succ, i64_w, i32_w]
        rfl
       refine pure_ (i := 20) (N := some 12) (v := ?_) (a' := ?_) #[T, T, T, T, T, T, T, T, T, T, T, T, T, T, T, T, T, T, T, T, T] rfl rfl (any_of HT_.out (by kernel_rfl)) (fun _ _ _ h => h) (Or.inl ⟨by rfl, ?_⟩) ?_ ?_
       rotate_left
       ·
        intro w'
        (try simp only [add_plain] at s0 s1 s2 s3)
        go_simp
        with_reducible rfl
       rotate_left
       ·
        simp only [Act.put, List.setIfInBounds_toArray, List.set_cons_zero, List.set_cons_succ, i64_w, i32_w]
        rfl
       refine done_ (done_of HT_.out (by kernel_rfl)) ?_
       try go_wp2
       go_ret
       exact ⟨by first | rfl | (simp [errW_none, errW_some] <;> rfl) | (simp [*, errW_none, errW_some] <;> rfl), by repeat (first | (with_reducible first | exact HB.out | apply below_alloc | apply pw_below_drewN | apply below_drew1 | refine below_set ?_ GE309.out | refine below_set ?_ GE310.out | refine below_set ?_ GE318.out | refine below_set ?_ GE328.out | refine below_set ?_ GE336.out) | exact HB.out)⟩
     ·
      replace c31 := Bool.eq_false_iff.mpr c31
      subst c31
      have H1 : (none) = some r := by rw [if_neg (show ¬ (false = true) by decide)] at H; exact H
      clear H
      have H := H1
      clear H1
      exact absurd H (by simp)
    ·
     rw [if_neg c29] at H
     exact absurd H (by simp)

end Go.Proofs.YtpicmnkkkgedeaaDoor.PAll
