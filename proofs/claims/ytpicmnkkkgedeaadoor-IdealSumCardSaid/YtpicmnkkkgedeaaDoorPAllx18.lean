/- The Go functions that the laws reach, as Lean functions, and that each call comes to what its function says. Written by a program of this session (a turned copy of the kit's print). No condition beyond those that each theorem states. -/
import Derived.Test.YtpicmnkkkgedeaaDoorPAllx0
import Derived.Test.YtpicmnkkkgedeaaDoorPAllx3
import Derived.Test.YtpicmnkkkgedeaaDoorPAllx7
import Derived.Test.YtpicmnkkkgedeaaDoorPAllx8
import Derived.Test.YtpicmnkkkgedeaaDoorPAllx11
import Derived.Test.YtpicmnkkkgedeaaDoorPAllx15
namespace Go.Proofs.YtpicmnkkkgedeaaDoor.PAll
open Go.RowKit Go.Proofs.YtpicmnkkkgedeaaDoorW.PrintWords Go.Proofs.YtpicmnkkkgedeaaDoorW.PrintLast Go.Proofs.YtpicmnkkkgedeaaDoorW.PrintMore
attribute [local go_sem] max2_int min2_int max_two min_two max_three min_three max_four min_four   -- for this text's walks alone
set_option linter.unusedVariables false
set_option linter.unusedSimpArgs false

theorem offertorylaw25_IdealSum.keepB {W0 W w1 : World} {g : Nat} {o : Obj} (h : Aside0 (W0.heap[g]? = some o)) (hb : Below W.heap.size W w1) (hs : W0.heap[g]? = some o → W.heap[g]? = some o := by intro h_; (with_reducible repeat (first | refine blk_drewN ?_ _ | refine blk_drew ?_ | refine blk_alloc ?_ _)); exact h_) : Aside0 (w1.heap[g]? = some o) := ⟨(hb.block g (blk_lt (hs h.out))).trans (hs h.out)⟩
theorem offertorylaw25_IdealSum.neL {W0 W : World} {g gb : Nat} {o : Obj} (h : Aside0 (W0.heap[g]? = some o)) (hg : gb = W.heap.size) (hs : W0.heap[g]? = some o → W.heap[g]? = some o := by intro h_; (with_reducible repeat (first | refine blk_drewN ?_ _ | refine blk_drew ?_ | refine blk_alloc ?_ _)); exact h_) : Aside0 (g ≠ gb) := ⟨by rw [hg]; exact Nat.ne_of_lt (blk_lt (hs h.out))⟩
theorem offertorylaw25_IdealSum.neG {W0 W : World} {g gb : Nat} {o : Obj} (h : Aside0 (W0.heap[g]? = some o)) (hg : gb = W.heap.size) (hs : W0.heap[g]? = some o → W.heap[g]? = some o := by intro h_; (with_reducible repeat (first | refine blk_drewN ?_ _ | refine blk_drew ?_ | refine blk_alloc ?_ _)); exact h_) : Aside0 (gb ≠ g) := ⟨by rw [hg]; exact Nat.ne_of_gt (blk_lt (hs h.out))⟩
/-! ### offertorylaw25_IdealSum: function 7 -/
mutual
def offertorylaw25_IdealSum.j0 : Nat → List (List Int) → Int → Bool → List (List Int) → List (List Int) → List (List (List Int)) → Option (Bool)
 | 0, _, _, _, _, _, _ => none
 | k + 1, x0, x3, x29, x352000, x352001, x352002 => if x29 = true then ((offertorylaw25_awake.f).bind fun t353 => (some t353)) else (offertorylaw25_IdealSum.l0 k x0 x3 0 x352000 x352001 x352002)
def offertorylaw25_IdealSum.l0 : Nat → List (List Int) → Int → Int → List (List Int) → List (List Int) → List (List (List Int)) → Option (Bool)
 | 0, _, _, _, _, _, _ => none
 | k + 1, x0, x3, x11, x352000, x352001, x352002 => if 0 < (x0.length : Int) then (if x11 < ((rd_L1 x0 0).length : Int) then (offertorylaw25_IdealSum.l1 k x0 x3 x11 0 0 0 x352000 x352001 x352002) else (some true)) else (none)
def offertorylaw25_IdealSum.l1 : Nat → List (List Int) → Int → Int → Int → Int → Int → List (List Int) → List (List Int) → List (List (List Int)) → Option (Bool)
 | 0, _, _, _, _, _, _, _, _, _ => none
 | k + 1, x0, x3, x11, x12, x13, x14, x352000, x352001, x352002 => if x14 < (x0.length : Int) then ((offertorylaw25_in.f x3 x14).bind fun t355 => (if t355 = true then (if 0 ≤ x14 then (if 0 ≤ x11 then (if x11 < ((rd_L1 x0 x14).length : Int) then (if x14 < (x352000.length : Int) then (if x11 < ((rd_L1 x352000 x14).length : Int) then (if x14 < (x352001.length : Int) then (if x11 < ((rd_L1 x352001 x14).length : Int) then (offertorylaw25_IdealSum.l2 k x0 x3 x11 ((x12 + (((rd (rd_L1 x352000 x14) x11) - (rd (rd_L1 x352001 x14) x11)) % 4294967296)) % 4294967296) ((x13 + (rd (rd_L1 x0 x14) x11)) % 4294967296) x14 0 x352000 x352001 x352002) else (none)) else (none)) else (none)) else (none)) else (none)) else (none)) else (none)) else (offertorylaw25_IdealSum.l1 k x0 x3 x11 x12 x13 (wrap64 (x14 + 1)) x352000 x352001 x352002))) else (if x12 = x13 then (offertorylaw25_IdealSum.l0 k x0 x3 (wrap64 (x11 + 1)) x352000 x352001 x352002) else (none))
def offertorylaw25_IdealSum.l2 : Nat → List (List Int) → Int → Int → Int → Int → Int → Int → List (List Int) → List (List Int) → List (List (List Int)) → Option (Bool)
 | 0, _, _, _, _, _, _, _, _, _, _ => none
 | k + 1, x0, x3, x11, x12, x13, x14, x15, x352000, x352001, x352002 => if x15 < (x0.length : Int) then (if x15 > x14 then (if 0 ≤ x14 then (if x14 < (x352002.length : Int) then (if 0 ≤ x15 then (if x15 < ((rd_L2 x352002 x14).length : Int) then (offertorylaw25_IdealSum.j4 k x0 x3 x11 x12 x13 x14 x15 (decide (((rd_L1 (rd_L2 x352002 x14) x15).length : Int) > 0)) x352000 x352001 x352002) else (none)) else (none)) else (none)) else (none)) else (offertorylaw25_IdealSum.j4 k x0 x3 x11 x12 x13 x14 x15 false x352000 x352001 x352002)) else (offertorylaw25_IdealSum.l1 k x0 x3 x11 x12 x13 (wrap64 (x14 + 1)) x352000 x352001 x352002)
def offertorylaw25_IdealSum.j4 : Nat → List (List Int) → Int → Int → Int → Int → Int → Int → Bool → List (List Int) → List (List Int) → List (List (List Int)) → Option (Bool)
 | 0, _, _, _, _, _, _, _, _, _, _, _ => none
 | k + 1, x0, x3, x11, x12, x13, x14, x15, x97, x352000, x352001, x352002 => if x97 = true then (if 0 ≤ x14 then (if x14 < (x352002.length : Int) then (if 0 ≤ x15 then (if x15 < ((rd_L2 x352002 x14).length : Int) then (if 0 ≤ x11 then (if x11 < ((rd_L1 (rd_L2 x352002 x14) x15).length : Int) then (if x15 < x14 then (if x15 < (x352002.length : Int) then (if x14 < ((rd_L2 x352002 x15).length : Int) then (if ((rd_L1 (rd_L2 x352002 x15) x14).length : Int) > 0 then (if x11 < ((rd_L1 (rd_L2 x352002 x15) x14).length : Int) then (offertorylaw25_IdealSum.l2 k x0 x3 x11 ((((x12 - (rd (rd_L1 (rd_L2 x352002 x14) x15) x11)) % 4294967296) + (rd (rd_L1 (rd_L2 x352002 x15) x14) x11)) % 4294967296) x13 x14 (wrap64 (x15 + 1)) x352000 x352001 x352002) else (none)) else (offertorylaw25_IdealSum.l2 k x0 x3 x11 ((x12 - (rd (rd_L1 (rd_L2 x352002 x14) x15) x11)) % 4294967296) x13 x14 (wrap64 (x15 + 1)) x352000 x352001 x352002)) else (none)) else (none)) else (offertorylaw25_IdealSum.l2 k x0 x3 x11 ((x12 - (rd (rd_L1 (rd_L2 x352002 x14) x15) x11)) % 4294967296) x13 x14 (wrap64 (x15 + 1)) x352000 x352001 x352002)) else (none)) else (none)) else (none)) else (none)) else (none)) else (none)) else (if x15 < x14 then (if 0 ≤ x15 then (if x15 < (x352002.length : Int) then (if 0 ≤ x14 then (if x14 < ((rd_L2 x352002 x15).length : Int) then (if ((rd_L1 (rd_L2 x352002 x15) x14).length : Int) > 0 then (if 0 ≤ x11 then (if x11 < ((rd_L1 (rd_L2 x352002 x15) x14).length : Int) then (offertorylaw25_IdealSum.l2 k x0 x3 x11 ((x12 + (rd (rd_L1 (rd_L2 x352002 x15) x14) x11)) % 4294967296) x13 x14 (wrap64 (x15 + 1)) x352000 x352001 x352002) else (none)) else (none)) else (offertorylaw25_IdealSum.l2 k x0 x3 x11 x12 x13 x14 (wrap64 (x15 + 1)) x352000 x352001 x352002)) else (none)) else (none)) else (none)) else (none)) else (offertorylaw25_IdealSum.l2 k x0 x3 x11 x12 x13 x14 (wrap64 (x15 + 1)) x352000 x352001 x352002))
end
def offertorylaw25_IdealSum.f (k : Nat) (l0 : List (List Int)) (l1_0 : List (List Int)) (l1_1 : List (List (List Int))) (a2 : Int) (a3 : Int) : Option (Bool) := (ideal_See.f k l0 l1_0 l1_1 a2 a3).bind fun bt341 => ((offertorylaw25_awake.f).bind fun t352 => (if t352 = true then (offertorylaw25_IdealSum.j0 k l0 a3 (bt341.2.2.2 != 0) bt341.1 bt341.2.1 bt341.2.2.1) else (offertorylaw25_IdealSum.j0 k l0 a3 true bt341.1 bt341.2.1 bt341.2.2.1)))
theorem offertorylaw25_IdealSum.mono_l : ∀ k, (∀ y0 y1 y2 y3 y4 y5, LeO (offertorylaw25_IdealSum.j0 k y0 y1 y2 y3 y4 y5) (offertorylaw25_IdealSum.j0 (k + 1) y0 y1 y2 y3 y4 y5)) ∧ (∀ y0 y1 y2 y3 y4 y5, LeO (offertorylaw25_IdealSum.l0 k y0 y1 y2 y3 y4 y5) (offertorylaw25_IdealSum.l0 (k + 1) y0 y1 y2 y3 y4 y5)) ∧ (∀ y0 y1 y2 y3 y4 y5 y6 y7 y8, LeO (offertorylaw25_IdealSum.l1 k y0 y1 y2 y3 y4 y5 y6 y7 y8) (offertorylaw25_IdealSum.l1 (k + 1) y0 y1 y2 y3 y4 y5 y6 y7 y8)) ∧ (∀ y0 y1 y2 y3 y4 y5 y6 y7 y8 y9, LeO (offertorylaw25_IdealSum.l2 k y0 y1 y2 y3 y4 y5 y6 y7 y8 y9) (offertorylaw25_IdealSum.l2 (k + 1) y0 y1 y2 y3 y4 y5 y6 y7 y8 y9)) ∧ (∀ y0 y1 y2 y3 y4 y5 y6 y7 y8 y9 y10, LeO (offertorylaw25_IdealSum.j4 k y0 y1 y2 y3 y4 y5 y6 y7 y8 y9 y10) (offertorylaw25_IdealSum.j4 (k + 1) y0 y1 y2 y3 y4 y5 y6 y7 y8 y9 y10))
 | 0 => ⟨fun _ _ _ _ _ _ r h => by simp [offertorylaw25_IdealSum.j0] at h, fun _ _ _ _ _ _ r h => by simp [offertorylaw25_IdealSum.l0] at h, fun _ _ _ _ _ _ _ _ _ r h => by simp [offertorylaw25_IdealSum.l1] at h, fun _ _ _ _ _ _ _ _ _ _ r h => by simp [offertorylaw25_IdealSum.l2] at h, fun _ _ _ _ _ _ _ _ _ _ _ r h => by simp [offertorylaw25_IdealSum.j4] at h⟩
 | k + 1 => by
  obtain ⟨ih0, ih1, ih2, ih3, ih4⟩ := offertorylaw25_IdealSum.mono_l k
  refine ⟨?_, ?_, ?_, ?_, ?_⟩
  ·
   intro y0 y1 y2 y3 y4 y5
   unfold offertorylaw25_IdealSum.j0
   repeat' first
   | (with_reducible exact ih0 _ _ _ _ _ _)
   | (with_reducible exact ih1 _ _ _ _ _ _)
   | (with_reducible exact ih2 _ _ _ _ _ _ _ _ _)
   | (with_reducible exact ih3 _ _ _ _ _ _ _ _ _ _)
   | (with_reducible exact ih4 _ _ _ _ _ _ _ _ _ _ _)
   | (with_reducible exact ideal_See.mono _ _ _ _ _ _)
   | (with_reducible exact LeO.refl _)
   | (with_reducible exact LeO.none _)
   | (with_reducible refine LeO.ite ?_ ?_)
   | (with_reducible refine LeO.bind ?_ (fun _ => ?_))
   | exact ih0 _ _ _ _ _ _
   | exact ih1 _ _ _ _ _ _
   | exact ih2 _ _ _ _ _ _ _ _ _
   | exact ih3 _ _ _ _ _ _ _ _ _ _
   | exact ih4 _ _ _ _ _ _ _ _ _ _ _
   | exact ideal_See.mono _ _ _ _ _ _
   | exact LeO.none _
   | refine LeO.ite ?_ ?_
   | refine LeO.bind ?_ (fun _ => ?_)
  ·
   intro y0 y1 y2 y3 y4 y5
   unfold offertorylaw25_IdealSum.l0
   repeat' first
   | (with_reducible exact ih0 _ _ _ _ _ _)
   | (with_reducible exact ih1 _ _ _ _ _ _)
   | (with_reducible exact ih2 _ _ _ _ _ _ _ _ _)
   | (with_reducible exact ih3 _ _ _ _ _ _ _ _ _ _)
   | (with_reducible exact ih4 _ _ _ _ _ _ _ _ _ _ _)
   | (with_reducible exact ideal_See.mono _ _ _ _ _ _)
   | (with_reducible exact LeO.refl _)
   | (with_reducible exact LeO.none _)
   | (with_reducible refine LeO.ite ?_ ?_)
   | (with_reducible refine LeO.bind ?_ (fun _ => ?_))
   | exact ih0 _ _ _ _ _ _
   | exact ih1 _ _ _ _ _ _
   | exact ih2 _ _ _ _ _ _ _ _ _
   | exact ih3 _ _ _ _ _ _ _ _ _ _
   | exact ih4 _ _ _ _ _ _ _ _ _ _ _
   | exact ideal_See.mono _ _ _ _ _ _
   | exact LeO.none _
   | refine LeO.ite ?_ ?_
   | refine LeO.bind ?_ (fun _ => ?_)
  ·
   intro y0 y1 y2 y3 y4 y5 y6 y7 y8
   unfold offertorylaw25_IdealSum.l1
   repeat' first
   | (with_reducible exact ih0 _ _ _ _ _ _)
   | (with_reducible exact ih1 _ _ _ _ _ _)
   | (with_reducible exact ih2 _ _ _ _ _ _ _ _ _)
   | (with_reducible exact ih3 _ _ _ _ _ _ _ _ _ _)
   | (with_reducible exact ih4 _ _ _ _ _ _ _ _ _ _ _)
   | (with_reducible exact ideal_See.mono _ _ _ _ _ _)
   | (with_reducible exact LeO.refl _)
   | (with_reducible exact LeO.none _)
   | (with_reducible refine LeO.ite ?_ ?_)
   | (with_reducible refine LeO.bind ?_ (fun _ => ?_))
   | exact ih0 _ _ _ _ _ _
   | exact ih1 _ _ _ _ _ _
   | exact ih2 _ _ _ _ _ _ _ _ _
   | exact ih3 _ _ _ _ _ _ _ _ _ _
   | exact ih4 _ _ _ _ _ _ _ _ _ _ _
   | exact ideal_See.mono _ _ _ _ _ _
   | exact LeO.none _
   | refine LeO.ite ?_ ?_
   | refine LeO.bind ?_ (fun _ => ?_)
  ·
   intro y0 y1 y2 y3 y4 y5 y6 y7 y8 y9
   unfold offertorylaw25_IdealSum.l2
   repeat' first
   | (with_reducible exact ih0 _ _ _ _ _ _)
   | (with_reducible exact ih1 _ _ _ _ _ _)
   | (with_reducible exact ih2 _ _ _ _ _ _ _ _ _)
   | (with_reducible exact ih3 _ _ _ _ _ _ _ _ _ _)
   | (with_reducible exact ih4 _ _ _ _ _ _ _ _ _ _ _)
   | (with_reducible exact ideal_See.mono _ _ _ _ _ _)
   | (with_reducible exact LeO.refl _)
   | (with_reducible exact LeO.none _)
   | (with_reducible refine LeO.ite ?_ ?_)
   | (with_reducible refine LeO.bind ?_ (fun _ => ?_))
   | exact ih0 _ _ _ _ _ _
   | exact ih1 _ _ _ _ _ _
   | exact ih2 _ _ _ _ _ _ _ _ _
   | exact ih3 _ _ _ _ _ _ _ _ _ _
   | exact ih4 _ _ _ _ _ _ _ _ _ _ _
   | exact ideal_See.mono _ _ _ _ _ _
   | exact LeO.none _
   | refine LeO.ite ?_ ?_
   | refine LeO.bind ?_ (fun _ => ?_)
  ·
   intro y0 y1 y2 y3 y4 y5 y6 y7 y8 y9 y10
   unfold offertorylaw25_IdealSum.j4
   repeat' first
   | (with_reducible exact ih0 _ _ _ _ _ _)
   | (with_reducible exact ih1 _ _ _ _ _ _)
   | (with_reducible exact ih2 _ _ _ _ _ _ _ _ _)
   | (with_reducible exact ih3 _ _ _ _ _ _ _ _ _ _)
   | (with_reducible exact ih4 _ _ _ _ _ _ _ _ _ _ _)
   | (with_reducible exact ideal_See.mono _ _ _ _ _ _)
   | (with_reducible exact LeO.refl _)
   | (with_reducible exact LeO.none _)
   | (with_reducible refine LeO.ite ?_ ?_)
   | (with_reducible refine LeO.bind ?_ (fun _ => ?_))
   | exact ih0 _ _ _ _ _ _
   | exact ih1 _ _ _ _ _ _
   | exact ih2 _ _ _ _ _ _ _ _ _
   | exact ih3 _ _ _ _ _ _ _ _ _ _
   | exact ih4 _ _ _ _ _ _ _ _ _ _ _
   | exact ideal_See.mono _ _ _ _ _ _
   | exact LeO.none _
   | refine LeO.ite ?_ ?_
   | refine LeO.bind ?_ (fun _ => ?_)
theorem offertorylaw25_IdealSum.mono : ∀ a0 a1 a2 a3 a4 k, LeO (offertorylaw25_IdealSum.f k a0 a1 a2 a3 a4) (offertorylaw25_IdealSum.f (k + 1) a0 a1 a2 a3 a4) := by
 intro a0 a1 a2 a3 a4 k
 obtain ⟨ih0, ih1, ih2, ih3, ih4⟩ := offertorylaw25_IdealSum.mono_l k
 unfold offertorylaw25_IdealSum.f
 repeat' first
   | (with_reducible exact ih0 _ _ _ _ _ _)
   | (with_reducible exact ih1 _ _ _ _ _ _)
   | (with_reducible exact ih2 _ _ _ _ _ _ _ _ _)
   | (with_reducible exact ih3 _ _ _ _ _ _ _ _ _ _)
   | (with_reducible exact ih4 _ _ _ _ _ _ _ _ _ _ _)
   | (with_reducible exact ideal_See.mono _ _ _ _ _ _)
   | (with_reducible exact LeO.refl _)
   | (with_reducible exact LeO.none _)
   | (with_reducible refine LeO.ite ?_ ?_)
   | (with_reducible refine LeO.bind ?_ (fun _ => ?_))
   | exact ih0 _ _ _ _ _ _
   | exact ih1 _ _ _ _ _ _
   | exact ih2 _ _ _ _ _ _ _ _ _
   | exact ih3 _ _ _ _ _ _ _ _ _ _
   | exact ih4 _ _ _ _ _ _ _ _ _ _ _
   | exact ideal_See.mono _ _ _ _ _ _
   | exact LeO.none _
   | refine LeO.ite ?_ ?_
   | refine LeO.bind ?_ (fun _ => ?_)
set_option maxHeartbeats 8000000 in
set_option maxRecDepth 100000 in
theorem offertorylaw25_IdealSum.calls (k : Nat) (A0 : Option Addr) (c0 : Nat) (l0 : List (List Int)) (A1_0 : Option Addr) (c1_0 : Nat) (l1_0 : List (List Int)) (A1_1 : Option Addr) (c1_1 : Nat) (l1_1 : List (List (List Int))) (a2 : Int) (a3 : Int) (r : Bool) (w : World) (hr0 : Kd.C (Kd.slice 37 (Kd.int .u32)) w A0 l0.length l0) (hc0 : l0.length ≤ c0) (hr1_0 : Kd.C (Kd.slice 37 (Kd.int .u32)) w A1_0 l1_0.length l1_0) (hc1_0 : l1_0.length ≤ c1_0) (hr1_1 : Kd.C (Kd.slice 35 (Kd.slice 37 (Kd.int .u32))) w A1_1 l1_1.length l1_1) (hc1_1 : l1_1.length ≤ c1_1) (hT : Tab w) (h : offertorylaw25_IdealSum.f k l0 l1_0 l1_1 a2 a3 = some r) :
  Calls Tryd.prog 7 #[.slice A0 l0.length c0, .agg #[.slice A1_0 l1_0.length c1_0, .slice A1_1 l1_1.length c1_1], .int .u64 a2, .int .u64 a3] w fun e w' => e = .returned (.bool r) ∧ Below w.heap.size w w' := by
 have hu25 := Tryd.underlying25
 have hu30 := Tryd.underlying30
 have HR0 := Aside0.mk hr0
 have HC0 := Aside0.mk hc0
 clear hr0 hc0
 have HR1_0 := Aside0.mk hr1_0
 have HC1_0 := Aside0.mk hc1_0
 clear hr1_0 hc1_0
 have HR1_1 := Aside0.mk hr1_1
 have HC1_1 := Aside0.mk hc1_1
 clear hr1_1 hc1_1
 have HTab := Aside0.mk hT
 clear hT
 have HB := Aside0.mk (Below.refl w.heap.size w)
 have H : ((ideal_See.f k l0 l1_0 l1_1 a2 a3).bind fun bt341 => ((offertorylaw25_awake.f).bind fun t352 => (if t352 = true then (offertorylaw25_IdealSum.j0 k l0 a3 (bt341.2.2.2 != 0) bt341.1 bt341.2.1 bt341.2.2.1) else (offertorylaw25_IdealSum.j0 k l0 a3 true bt341.1 bt341.2.1 bt341.2.2.1)))) = some r := h
 clear h
 replace H := Option.bind_eq_some_iff.mp H
 obtain ⟨⟨t341, t344, t347, t350⟩, A50, H⟩ := H
 replace H : ((offertorylaw25_awake.f).bind fun t352 => (if t352 = true then (offertorylaw25_IdealSum.j0 k l0 a3 (t350 != 0) t341 t344 t347) else (offertorylaw25_IdealSum.j0 k l0 a3 true t341 t344 t347))) = some r := H
 have A5 := Aside0.mk A50
 clear A50
 have HC6 := Aside0.mk H
 clear H
 go_enter Tryd.func7, Tryd.ntmps7
 go_upto_region 2 with (first | ((with_reducible refine gate_dst (N := 5) rfl ?_); (try (refine gate_guard (by rfl) ?_; dsimp only)); refine box_event ?hg (N := 5) ?hd (cs := #[.slice A1_0 l1_0.length c1_0, .slice A1_1 l1_1.length c1_1]) (t := 25) ?hr ?_; (case hd => rfl); (case hg => rfl); (case hr => first | (go_simp; done) | (go_simp; rfl)); intro gb340 hg w7 hbox hb; have n0_ := Aside0.mk (below_step (by repeat (first | (with_reducible first | exact HB.out | apply below_alloc | apply pw_below_drewN | apply below_drew1) | exact HB.out)) hb); have n1_ := Aside0.mk (hbox); have n2_ := Aside0.mk ((by rw [hg]; exact (below_size (by repeat (first | (with_reducible first | exact HB.out | apply below_alloc | apply pw_below_drewN | apply below_drew1) | exact HB.out))) : w.heap.size ≤ gb340)); have n3_ := Aside0.mk ((by rw [hg]; exact (below_size (by repeat (first | (with_reducible first | exact HB.out | apply below_alloc | apply pw_below_drewN | apply below_drew1) | exact HB.out))) : w.heap.size ≤ gb340)); clear HB; have HB := n0_; have BK340 := n1_; have GW340 := n2_; have GE340 := n3_; clear n0_ n1_ n2_ n3_; clear hb hbox hg; have hcz8_0 : w7.cell? ⟨gb340, 0, none⟩ = some (.slice A1_0 l1_0.length c1_0) := (blk_cell BK340.out 0).trans rfl; have hcz8_1 : w7.cell? ⟨gb340, 1, none⟩ = some (.slice A1_1 l1_1.length c1_1) := (blk_cell BK340.out 1).trans rfl; have hfz8_0 := blk_frozen BK340.out 0; have hfz8_1 := blk_frozen BK340.out 1) | (go_at_call 12; (with_reducible refine (ideal_See.calls k _ _ l0 _ _ l1_0 _ _ l1_1 a2 a3 t341 t344 t347 t350 _ ?side1 ?side2 ?side3 ?side4 ?side5 ?side6 (HTab.out.step (by repeat (first | (with_reducible first | exact HB.out | apply below_alloc | apply pw_below_drewN | apply below_drew1 | refine below_set ?_ (Aside0.out (by assumption))) | exact HB.out | refine below_set ?_ (Aside0.out (by assumption))))) A5.out).mono ?_); (case side1 => repeat (first | exact (Kd.C_below HR0.out HB.out) | (with_reducible refine Kd.C_alloc ?_ _) | (with_reducible refine Kd.C_drewN ?_ _) | (with_reducible refine Kd.C_drew ?_))); (case side2 => exact HC0.out); (case side3 => repeat (first | exact (Kd.C_below HR1_0.out HB.out) | (with_reducible refine Kd.C_alloc ?_ _) | (with_reducible refine Kd.C_drewN ?_ _) | (with_reducible refine Kd.C_drew ?_))); (case side4 => exact HC1_0.out); (case side5 => repeat (first | exact (Kd.C_below HR1_1.out HB.out) | (with_reducible refine Kd.C_alloc ?_ _) | (with_reducible refine Kd.C_drewN ?_ _) | (with_reducible refine Kd.C_drew ?_))); (case side6 => exact HC1_1.out); rintro e w9 ⟨v342, v345, v348, rfl, ho0, ho1, ho2, hb⟩; have n0_ := Aside0.mk (Kd.R_lower ho0 (below_size (by repeat (first | (with_reducible first | exact HB.out | apply below_alloc | apply pw_below_drewN | apply below_drew1 | refine below_set ?_ GE340.out) | exact HB.out)))); have n1_ := Aside0.mk (Kd.R_lower ho1 (below_size (by repeat (first | (with_reducible first | exact HB.out | apply below_alloc | apply pw_below_drewN | apply below_drew1 | refine below_set ?_ GE340.out) | exact HB.out)))); have n2_ := Aside0.mk (Kd.R_lower ho2 (below_size (by repeat (first | (with_reducible first | exact HB.out | apply below_alloc | apply pw_below_drewN | apply below_drew1 | refine below_set ?_ GE340.out) | exact HB.out)))); have n3_ := offertorylaw25_IdealSum.keepB BK340 hb; have n4_ := Aside0.mk (below_step (by repeat (first | (with_reducible first | exact HB.out | apply below_alloc | apply pw_below_drewN | apply below_drew1 | refine below_set ?_ GE340.out) | exact HB.out)) hb); clear BK340; clear HB; have HO343 := n0_; have HO346 := n1_; have HO349 := n2_; have BK340 := n3_; have HB := n4_; clear n0_ n1_ n2_ n3_ n4_; (try clear hb); (try clear hb2); (try clear hk); (try clear hi); (try clear ho0); (try clear ho1); (try clear ho2)) | ((with_reducible refine gate_dst (N := 9) rfl ?_); (try (refine gate_guard (by rfl) ?_; dsimp only)); refine box_event ?hg (N := 9) ?hd (cs := #[.slice none 0 0, .slice none 0 0, .slice none 0 0]) (t := 30) ?hr ?_; (case hd => rfl); (case hg => rfl); (case hr => first | (go_simp; done) | (go_simp; rfl)); intro gb351 hg w10 hbox hb; have n0_ := Aside0.mk (Kd.R_below (by (with_reducible repeat (first | apply Kd.R_alloc | apply Kd.R_drewN | apply Kd.R_drew)); exact HO343.out) hb); have n1_ := Aside0.mk (Kd.R_below (by (with_reducible repeat (first | apply Kd.R_alloc | apply Kd.R_drewN | apply Kd.R_drew)); exact HO346.out) hb); have n2_ := Aside0.mk (Kd.R_below (by (with_reducible repeat (first | apply Kd.R_alloc | apply Kd.R_drewN | apply Kd.R_drew)); exact HO349.out) hb); have n3_ := offertorylaw25_IdealSum.keepB BK340 hb; have n4_ := Aside0.mk (below_step (by repeat (first | (with_reducible first | exact HB.out | apply below_alloc | apply pw_below_drewN | apply below_drew1 | refine below_set ?_ GE340.out) | exact HB.out)) hb); have n5_ := Aside0.mk (hbox); have n6_ := Aside0.mk ((by rw [hg]; exact (below_size (by repeat (first | (with_reducible first | exact HB.out | apply below_alloc | apply pw_below_drewN | apply below_drew1 | refine below_set ?_ GE340.out) | exact HB.out))) : w.heap.size ≤ gb351)); have n7_ := Aside0.mk ((by rw [hg]; exact (below_size (by repeat (first | (with_reducible first | exact HB.out | apply below_alloc | apply pw_below_drewN | apply below_drew1 | refine below_set ?_ GE340.out) | exact HB.out))) : w.heap.size ≤ gb351)); have n8_ := offertorylaw25_IdealSum.neL BK340 hg; have n9_ := offertorylaw25_IdealSum.neG BK340 hg; clear HO343; clear HO346; clear HO349; clear BK340; clear HB; have HO343 := n0_; have HO346 := n1_; have HO349 := n2_; have BK340 := n3_; have HB := n4_; have BK351 := n5_; have GW351 := n6_; have GE351 := n7_; have NB340_351 := n8_; have NB351_340 := n9_; clear n0_ n1_ n2_ n3_ n4_ n5_ n6_ n7_ n8_ n9_; clear hb hbox hg; obtain ⟨Ao11, co11, eo11⟩ := Kd.R_slice HO343.out; subst eo11; have hnb12 := NB351_340.out; have hnc12 := NB340_351.out; have hcz13_0 : w10.cell? ⟨gb351, 0, none⟩ = some (.slice none 0 0) := (blk_cell BK351.out 0).trans rfl; have hcz13_1 : w10.cell? ⟨gb351, 1, none⟩ = some (.slice none 0 0) := (blk_cell BK351.out 1).trans rfl; have hcz13_2 : w10.cell? ⟨gb351, 2, none⟩ = some (.slice none 0 0) := (blk_cell BK351.out 2).trans rfl; have hfz13_0 := blk_frozen BK351.out 0; have hfz13_1 := blk_frozen BK351.out 1; have hfz13_2 := blk_frozen BK351.out 2; obtain ⟨Ao14, co14, eo14⟩ := Kd.R_slice HO346.out; subst eo14; obtain ⟨Ao15, co15, eo15⟩ := Kd.R_slice HO349.out; subst eo15))
 repeat (go_quiet (first | ((with_reducible refine gate_dst (N := 5) rfl ?_); (try (refine gate_guard (by rfl) ?_; dsimp only)); refine box_event ?hg (N := 5) ?hd (cs := #[.slice A1_0 l1_0.length c1_0, .slice A1_1 l1_1.length c1_1]) (t := 25) ?hr ?_; (case hd => rfl); (case hg => rfl); (case hr => first | (go_simp; done) | (go_simp; rfl)); intro gb340 hg w7 hbox hb; have n0_ := Aside0.mk (below_step (by repeat (first | (with_reducible first | exact HB.out | apply below_alloc | apply pw_below_drewN | apply below_drew1) | exact HB.out)) hb); have n1_ := Aside0.mk (hbox); have n2_ := Aside0.mk ((by rw [hg]; exact (below_size (by repeat (first | (with_reducible first | exact HB.out | apply below_alloc | apply pw_below_drewN | apply below_drew1) | exact HB.out))) : w.heap.size ≤ gb340)); have n3_ := Aside0.mk ((by rw [hg]; exact (below_size (by repeat (first | (with_reducible first | exact HB.out | apply below_alloc | apply pw_below_drewN | apply below_drew1) | exact HB.out))) : w.heap.size ≤ gb340)); clear HB; have HB := n0_; have BK340 := n1_; have GW340 := n2_; have GE340 := n3_; clear n0_ n1_ n2_ n3_; clear hb hbox hg; have hcz8_0 : w7.cell? ⟨gb340, 0, none⟩ = some (.slice A1_0 l1_0.length c1_0) := (blk_cell BK340.out 0).trans rfl; have hcz8_1 : w7.cell? ⟨gb340, 1, none⟩ = some (.slice A1_1 l1_1.length c1_1) := (blk_cell BK340.out 1).trans rfl; have hfz8_0 := blk_frozen BK340.out 0; have hfz8_1 := blk_frozen BK340.out 1) | (go_at_call 12; (with_reducible refine (ideal_See.calls k _ _ l0 _ _ l1_0 _ _ l1_1 a2 a3 t341 t344 t347 t350 _ ?side1 ?side2 ?side3 ?side4 ?side5 ?side6 (HTab.out.step (by repeat (first | (with_reducible first | exact HB.out | apply below_alloc | apply pw_below_drewN | apply below_drew1 | refine below_set ?_ (Aside0.out (by assumption))) | exact HB.out | refine below_set ?_ (Aside0.out (by assumption))))) A5.out).mono ?_); (case side1 => repeat (first | exact (Kd.C_below HR0.out HB.out) | (with_reducible refine Kd.C_alloc ?_ _) | (with_reducible refine Kd.C_drewN ?_ _) | (with_reducible refine Kd.C_drew ?_))); (case side2 => exact HC0.out); (case side3 => repeat (first | exact (Kd.C_below HR1_0.out HB.out) | (with_reducible refine Kd.C_alloc ?_ _) | (with_reducible refine Kd.C_drewN ?_ _) | (with_reducible refine Kd.C_drew ?_))); (case side4 => exact HC1_0.out); (case side5 => repeat (first | exact (Kd.C_below HR1_1.out HB.out) | (with_reducible refine Kd.C_alloc ?_ _) | (with_reducible refine Kd.C_drewN ?_ _) | (with_reducible refine Kd.C_drew ?_))); (case side6 => exact HC1_1.out); rintro e w9 ⟨v342, v345, v348, rfl, ho0, ho1, ho2, hb⟩; have n0_ := Aside0.mk (Kd.R_lower ho0 (below_size (by repeat (first | (with_reducible first | exact HB.out | apply below_alloc | apply pw_below_drewN | apply below_drew1 | refine below_set ?_ GE340.out) | exact HB.out)))); have n1_ := Aside0.mk (Kd.R_lower ho1 (below_size (by repeat (first | (with_reducible first | exact HB.out | apply below_alloc | apply pw_below_drewN | apply below_drew1 | refine below_set ?_ GE340.out) | exact HB.out)))); have n2_ := Aside0.mk (Kd.R_lower ho2 (below_size (by repeat (first | (with_reducible first | exact HB.out | apply below_alloc | apply pw_below_drewN | apply below_drew1 | refine below_set ?_ GE340.out) | exact HB.out)))); have n3_ := offertorylaw25_IdealSum.keepB BK340 hb; have n4_ := Aside0.mk (below_step (by repeat (first | (with_reducible first | exact HB.out | apply below_alloc | apply pw_below_drewN | apply below_drew1 | refine below_set ?_ GE340.out) | exact HB.out)) hb); clear BK340; clear HB; have HO343 := n0_; have HO346 := n1_; have HO349 := n2_; have BK340 := n3_; have HB := n4_; clear n0_ n1_ n2_ n3_ n4_; (try clear hb); (try clear hb2); (try clear hk); (try clear hi); (try clear ho0); (try clear ho1); (try clear ho2)) | ((with_reducible refine gate_dst (N := 9) rfl ?_); (try (refine gate_guard (by rfl) ?_; dsimp only)); refine box_event ?hg (N := 9) ?hd (cs := #[.slice none 0 0, .slice none 0 0, .slice none 0 0]) (t := 30) ?hr ?_; (case hd => rfl); (case hg => rfl); (case hr => first | (go_simp; done) | (go_simp; rfl)); intro gb351 hg w10 hbox hb; have n0_ := Aside0.mk (Kd.R_below (by (with_reducible repeat (first | apply Kd.R_alloc | apply Kd.R_drewN | apply Kd.R_drew)); exact HO343.out) hb); have n1_ := Aside0.mk (Kd.R_below (by (with_reducible repeat (first | apply Kd.R_alloc | apply Kd.R_drewN | apply Kd.R_drew)); exact HO346.out) hb); have n2_ := Aside0.mk (Kd.R_below (by (with_reducible repeat (first | apply Kd.R_alloc | apply Kd.R_drewN | apply Kd.R_drew)); exact HO349.out) hb); have n3_ := offertorylaw25_IdealSum.keepB BK340 hb; have n4_ := Aside0.mk (below_step (by repeat (first | (with_reducible first | exact HB.out | apply below_alloc | apply pw_below_drewN | apply below_drew1 | refine below_set ?_ GE340.out) | exact HB.out)) hb); have n5_ := Aside0.mk (hbox); have n6_ := Aside0.mk ((by rw [hg]; exact (below_size (by repeat (first | (with_reducible first | exact HB.out | apply below_alloc | apply pw_below_drewN | apply below_drew1 | refine below_set ?_ GE340.out) | exact HB.out))) : w.heap.size ≤ gb351)); have n7_ := Aside0.mk ((by rw [hg]; exact (below_size (by repeat (first | (with_reducible first | exact HB.out | apply below_alloc | apply pw_below_drewN | apply below_drew1 | refine below_set ?_ GE340.out) | exact HB.out))) : w.heap.size ≤ gb351)); have n8_ := offertorylaw25_IdealSum.neL BK340 hg; have n9_ := offertorylaw25_IdealSum.neG BK340 hg; clear HO343; clear HO346; clear HO349; clear BK340; clear HB; have HO343 := n0_; have HO346 := n1_; have HO349 := n2_; have BK340 := n3_; have HB := n4_; have BK351 := n5_; have GW351 := n6_; have GE351 := n7_; have NB340_351 := n8_; have NB351_340 := n9_; clear n0_ n1_ n2_ n3_ n4_ n5_ n6_ n7_ n8_ n9_; clear hb hbox hg; obtain ⟨Ao11, co11, eo11⟩ := Kd.R_slice HO343.out; subst eo11; have hnb12 := NB351_340.out; have hnc12 := NB340_351.out; have hcz13_0 : w10.cell? ⟨gb351, 0, none⟩ = some (.slice none 0 0) := (blk_cell BK351.out 0).trans rfl; have hcz13_1 : w10.cell? ⟨gb351, 1, none⟩ = some (.slice none 0 0) := (blk_cell BK351.out 1).trans rfl; have hcz13_2 : w10.cell? ⟨gb351, 2, none⟩ = some (.slice none 0 0) := (blk_cell BK351.out 2).trans rfl; have hfz13_0 := blk_frozen BK351.out 0; have hfz13_1 := blk_frozen BK351.out 1; have hfz13_2 := blk_frozen BK351.out 2; obtain ⟨Ao14, co14, eo14⟩ := Kd.R_slice HO346.out; subst eo14; obtain ⟨Ao15, co15, eo15⟩ := Kd.R_slice HO349.out; subst eo15)); go_upto_region 2 with (first | ((with_reducible refine gate_dst (N := 5) rfl ?_); (try (refine gate_guard (by rfl) ?_; dsimp only)); refine box_event ?hg (N := 5) ?hd (cs := #[.slice A1_0 l1_0.length c1_0, .slice A1_1 l1_1.length c1_1]) (t := 25) ?hr ?_; (case hd => rfl); (case hg => rfl); (case hr => first | (go_simp; done) | (go_simp; rfl)); intro gb340 hg w7 hbox hb; have n0_ := Aside0.mk (below_step (by repeat (first | (with_reducible first | exact HB.out | apply below_alloc | apply pw_below_drewN | apply below_drew1) | exact HB.out)) hb); have n1_ := Aside0.mk (hbox); have n2_ := Aside0.mk ((by rw [hg]; exact (below_size (by repeat (first | (with_reducible first | exact HB.out | apply below_alloc | apply pw_below_drewN | apply below_drew1) | exact HB.out))) : w.heap.size ≤ gb340)); have n3_ := Aside0.mk ((by rw [hg]; exact (below_size (by repeat (first | (with_reducible first | exact HB.out | apply below_alloc | apply pw_below_drewN | apply below_drew1) | exact HB.out))) : w.heap.size ≤ gb340)); clear HB; have HB := n0_; have BK340 := n1_; have GW340 := n2_; have GE340 := n3_; clear n0_ n1_ n2_ n3_; clear hb hbox hg; have hcz8_0 : w7.cell? ⟨gb340, 0, none⟩ = some (.slice A1_0 l1_0.length c1_0) := (blk_cell BK340.out 0).trans rfl; have hcz8_1 : w7.cell? ⟨gb340, 1, none⟩ = some (.slice A1_1 l1_1.length c1_1) := (blk_cell BK340.out 1).trans rfl; have hfz8_0 := blk_frozen BK340.out 0; have hfz8_1 := blk_frozen BK340.out 1) | (go_at_call 12; (with_reducible refine (ideal_See.calls k _ _ l0 _ _ l1_0 _ _ l1_1 a2 a3 t341 t344 t347 t350 _ ?side1 ?side2 ?side3 ?side4 ?side5 ?side6 (HTab.out.step (by repeat (first | (with_reducible first | exact HB.out | apply below_alloc | apply pw_below_drewN | apply below_drew1 | refine below_set ?_ (Aside0.out (by assumption))) | exact HB.out | refine below_set ?_ (Aside0.out (by assumption))))) A5.out).mono ?_); (case side1 => repeat (first | exact (Kd.C_below HR0.out HB.out) | (with_reducible refine Kd.C_alloc ?_ _) | (with_reducible refine Kd.C_drewN ?_ _) | (with_reducible refine Kd.C_drew ?_))); (case side2 => exact HC0.out); (case side3 => repeat (first | exact (Kd.C_below HR1_0.out HB.out) | (with_reducible refine Kd.C_alloc ?_ _) | (with_reducible refine Kd.C_drewN ?_ _) | (with_reducible refine Kd.C_drew ?_))); (case side4 => exact HC1_0.out); (case side5 => repeat (first | exact (Kd.C_below HR1_1.out HB.out) | (with_reducible refine Kd.C_alloc ?_ _) | (with_reducible refine Kd.C_drewN ?_ _) | (with_reducible refine Kd.C_drew ?_))); (case side6 => exact HC1_1.out); rintro e w9 ⟨v342, v345, v348, rfl, ho0, ho1, ho2, hb⟩; have n0_ := Aside0.mk (Kd.R_lower ho0 (below_size (by repeat (first | (with_reducible first | exact HB.out | apply below_alloc | apply pw_below_drewN | apply below_drew1 | refine below_set ?_ GE340.out) | exact HB.out)))); have n1_ := Aside0.mk (Kd.R_lower ho1 (below_size (by repeat (first | (with_reducible first | exact HB.out | apply below_alloc | apply pw_below_drewN | apply below_drew1 | refine below_set ?_ GE340.out) | exact HB.out)))); have n2_ := Aside0.mk (Kd.R_lower ho2 (below_size (by repeat (first | (with_reducible first | exact HB.out | apply below_alloc | apply pw_below_drewN | apply below_drew1 | refine below_set ?_ GE340.out) | exact HB.out)))); have n3_ := offertorylaw25_IdealSum.keepB BK340 hb; have n4_ := Aside0.mk (below_step (by repeat (first | (with_reducible first | exact HB.out | apply below_alloc | apply pw_below_drewN | apply below_drew1 | refine below_set ?_ GE340.out) | exact HB.out)) hb); clear BK340; clear HB; have HO343 := n0_; have HO346 := n1_; have HO349 := n2_; have BK340 := n3_; have HB := n4_; clear n0_ n1_ n2_ n3_ n4_; (try clear hb); (try clear hb2); (try clear hk); (try clear hi); (try clear ho0); (try clear ho1); (try clear ho2)) | ((with_reducible refine gate_dst (N := 9) rfl ?_); (try (refine gate_guard (by rfl) ?_; dsimp only)); refine box_event ?hg (N := 9) ?hd (cs := #[.slice none 0 0, .slice none 0 0, .slice none 0 0]) (t := 30) ?hr ?_; (case hd => rfl); (case hg => rfl); (case hr => first | (go_simp; done) | (go_simp; rfl)); intro gb351 hg w10 hbox hb; have n0_ := Aside0.mk (Kd.R_below (by (with_reducible repeat (first | apply Kd.R_alloc | apply Kd.R_drewN | apply Kd.R_drew)); exact HO343.out) hb); have n1_ := Aside0.mk (Kd.R_below (by (with_reducible repeat (first | apply Kd.R_alloc | apply Kd.R_drewN | apply Kd.R_drew)); exact HO346.out) hb); have n2_ := Aside0.mk (Kd.R_below (by (with_reducible repeat (first | apply Kd.R_alloc | apply Kd.R_drewN | apply Kd.R_drew)); exact HO349.out) hb); have n3_ := offertorylaw25_IdealSum.keepB BK340 hb; have n4_ := Aside0.mk (below_step (by repeat (first | (with_reducible first | exact HB.out | apply below_alloc | apply pw_below_drewN | apply below_drew1 | refine below_set ?_ GE340.out) | exact HB.out)) hb); have n5_ := Aside0.mk (hbox); have n6_ := Aside0.mk ((by rw [hg]; exact (below_size (by repeat (first | (with_reducible first | exact HB.out | apply below_alloc | apply pw_below_drewN | apply below_drew1 | refine below_set ?_ GE340.out) | exact HB.out))) : w.heap.size ≤ gb351)); have n7_ := Aside0.mk ((by rw [hg]; exact (below_size (by repeat (first | (with_reducible first | exact HB.out | apply below_alloc | apply pw_below_drewN | apply below_drew1 | refine below_set ?_ GE340.out) | exact HB.out))) : w.heap.size ≤ gb351)); have n8_ := offertorylaw25_IdealSum.neL BK340 hg; have n9_ := offertorylaw25_IdealSum.neG BK340 hg; clear HO343; clear HO346; clear HO349; clear BK340; clear HB; have HO343 := n0_; have HO346 := n1_; have HO349 := n2_; have BK340 := n3_; have HB := n4_; have BK351 := n5_; have GW351 := n6_; have GE351 := n7_; have NB340_351 := n8_; have NB351_340 := n9_; clear n0_ n1_ n2_ n3_ n4_ n5_ n6_ n7_ n8_ n9_; clear hb hbox hg; obtain ⟨Ao11, co11, eo11⟩ := Kd.R_slice HO343.out; subst eo11; have hnb12 := NB351_340.out; have hnc12 := NB340_351.out; have hcz13_0 : w10.cell? ⟨gb351, 0, none⟩ = some (.slice none 0 0) := (blk_cell BK351.out 0).trans rfl; have hcz13_1 : w10.cell? ⟨gb351, 1, none⟩ = some (.slice none 0 0) := (blk_cell BK351.out 1).trans rfl; have hcz13_2 : w10.cell? ⟨gb351, 2, none⟩ = some (.slice none 0 0) := (blk_cell BK351.out 2).trans rfl; have hfz13_0 := blk_frozen BK351.out 0; have hfz13_1 := blk_frozen BK351.out 1; have hfz13_2 := blk_frozen BK351.out 2; obtain ⟨Ao14, co14, eo14⟩ := Kd.R_slice HO346.out; subst eo14; obtain ⟨Ao15, co15, eo15⟩ := Kd.R_slice HO349.out; subst eo15)))
 (try simp only [Act.put, List.setIfInBounds_toArray, List.set_cons_zero, List.set_cons_succ])
 go_cut [29] (fun v29 wc => ∃ (kq : Nat) (x29_5 : Bool), v29 = .bool x29_5 ∧ Aside0 (offertorylaw25_IdealSum.j0 kq l0 a3 x29_5 t341 t344 t347 = some r) ∧ Aside0 (kq ≤ k) ∧ Aside0 (Kd.R (Kd.slice 37 (Kd.int .u32)) 35 wc w.heap.size (fun k_ => some k_ ≠ ((.slice Ao14 t344.length co14) : Value).ownBlock) (.slice Ao11 t341.length co11) t341) ∧ Aside0 (Kd.R (Kd.slice 37 (Kd.int .u32)) 35 wc w.heap.size (fun k_ => some k_ ≠ ((.slice Ao11 t341.length co11) : Value).ownBlock) (.slice Ao14 t344.length co14) t344) ∧ Aside0 (Kd.R (Kd.slice 35 (Kd.slice 37 (Kd.int .u32))) 22 wc w.heap.size (fun k_ => some k_ ≠ ((.slice Ao11 t341.length co11) : Value).ownBlock ∧ some k_ ≠ ((.slice Ao14 t344.length co14) : Value).ownBlock) (.slice Ao15 t347.length co15) t347) ∧ Aside0 (wc.heap[gb340]? = some (.cells #[(.slice A1_0 l1_0.length c1_0), (.slice A1_1 l1_1.length c1_1)] 25 (0, 0))) ∧ Aside0 (wc.heap[gb351]? = some (.cells #[(.slice Ao11 t341.length co11), (.slice Ao14 t344.length co14), (.slice Ao15 t347.length co15)] 30 (0, 0))) ∧ Aside0 (Below w.heap.size w wc))
 case first =>
  have H := HC6.out
  clear HC6
  replace H := Option.bind_eq_some_iff.mp H
  obtain ⟨t352, A160, H⟩ := H
  replace H : (if t352 = true then (offertorylaw25_IdealSum.j0 k l0 a3 (t350 != 0) t341 t344 t347) else (offertorylaw25_IdealSum.j0 k l0 a3 true t341 t344 t347)) = some r := H
  have A16 := Aside0.mk A160
  clear A160
  by_cases c17 : t352 = true
  ·
   subst c17
   have H1 : (offertorylaw25_IdealSum.j0 k l0 a3 (t350 != 0) t341 t344 t347) = some r := by rw [if_pos rfl] at H; exact H
   clear H
   have H := H1
   clear H1
   have H' := Aside0.mk H
   clear H
   go_wp2_with (first | (go_at_call 9; (with_reducible refine (offertorylaw25_awake.calls  true _ (HTab.out.step (by repeat (first | (with_reducible first | exact HB.out | apply below_alloc | apply pw_below_drewN | apply below_drew1 | refine below_set ?_ (Aside0.out (by assumption))) | exact HB.out | refine below_set ?_ (Aside0.out (by assumption))))) A16.out).mono ?_); rintro e w18 ⟨rfl, hb⟩; have n0_ := Aside0.mk (Kd.R_below (by (with_reducible repeat (first | apply Kd.R_alloc | apply Kd.R_drewN | apply Kd.R_drew)); exact (Kd.R_mono (Kd.R_far (p := ⟨gb351, 2, none⟩) (Kd.R_far (p := ⟨gb351, 1, none⟩) (Kd.R_far (p := ⟨gb351, 0, none⟩) (Kd.R_types HO343.out BK351.out (by decide)) (fun _ hk => hk.2) (.slice Ao11 t341.length co11)) (fun _ hk => hk.2) (.slice Ao14 t344.length co14)) (fun _ hk => hk.2) (.slice Ao15 t347.length co15)) (fun _ h_ => h_.1))) hb); have n1_ := Aside0.mk (Kd.R_below (by (with_reducible repeat (first | apply Kd.R_alloc | apply Kd.R_drewN | apply Kd.R_drew)); exact (Kd.R_mono (Kd.R_far (p := ⟨gb351, 2, none⟩) (Kd.R_far (p := ⟨gb351, 1, none⟩) (Kd.R_far (p := ⟨gb351, 0, none⟩) (Kd.R_types HO346.out BK351.out (by decide)) (fun _ hk => hk.2) (.slice Ao11 t341.length co11)) (fun _ hk => hk.2) (.slice Ao14 t344.length co14)) (fun _ hk => hk.2) (.slice Ao15 t347.length co15)) (fun _ h_ => h_.1))) hb); have n2_ := Aside0.mk (Kd.R_below (by (with_reducible repeat (first | apply Kd.R_alloc | apply Kd.R_drewN | apply Kd.R_drew)); exact (Kd.R_mono (Kd.R_far (p := ⟨gb351, 2, none⟩) (Kd.R_far (p := ⟨gb351, 1, none⟩) (Kd.R_far (p := ⟨gb351, 0, none⟩) (Kd.R_types HO349.out BK351.out (by decide)) (fun _ hk => hk.2) (.slice Ao11 t341.length co11)) (fun _ hk => hk.2) (.slice Ao14 t344.length co14)) (fun _ hk => hk.2) (.slice Ao15 t347.length co15)) (fun _ h_ => h_.1))) hb); have n3_ := Aside0.mk (blk_below (g := gb340) (o := .cells #[.slice A1_0 l1_0.length c1_0, .slice A1_1 l1_1.length c1_1] 25 (0, 0)) (by (repeat (first | (with_reducible first | refine blk_drewN ?_ _ | refine blk_drew ?_ | refine blk_alloc ?_ _) | refine blk_far ?_ NB340_351.out _)); (with_reducible repeat (first | refine blk_drewN ?_ _ | refine blk_drew ?_ | refine blk_alloc ?_ _)); exact BK340.out) hb); have n4_ := Aside0.mk (blk_below (g := gb351) (o := .cells #[.slice Ao11 t341.length co11, .slice Ao14 t344.length co14, .slice Ao15 t347.length co15] 30 (0, 0)) (by (with_reducible repeat (first | refine blk_drewN ?_ _ | refine blk_drew ?_ | refine blk_alloc ?_ _)); refine blk_put (cs := #[.slice Ao11 t341.length co11, .slice Ao14 t344.length co14, .slice none 0 0]) ?_ 2 _ rfl; (with_reducible repeat (first | refine blk_drewN ?_ _ | refine blk_drew ?_ | refine blk_alloc ?_ _)); refine blk_put (cs := #[.slice Ao11 t341.length co11, .slice none 0 0, .slice none 0 0]) ?_ 1 _ rfl; (with_reducible repeat (first | refine blk_drewN ?_ _ | refine blk_drew ?_ | refine blk_alloc ?_ _)); refine blk_put (cs := #[.slice none 0 0, .slice none 0 0, .slice none 0 0]) ?_ 0 _ rfl; (with_reducible repeat (first | refine blk_drewN ?_ _ | refine blk_drew ?_ | refine blk_alloc ?_ _)); exact BK351.out) hb); have n5_ := Aside0.mk (below_step (by repeat (first | (with_reducible first | exact HB.out | apply below_alloc | apply pw_below_drewN | apply below_drew1 | refine below_set ?_ GE340.out | refine below_set ?_ GE351.out) | exact HB.out)) hb); clear HO343; clear HO346; clear HO349; clear BK340; clear BK351; clear HB; have HO343 := n0_; have HO346 := n1_; have HO349 := n2_; have BK340 := n3_; have BK351 := n4_; have HB := n5_; clear n0_ n1_ n2_ n3_ n4_ n5_; (try clear hb); (try clear hb2); (try clear hk); (try clear hi)))
   repeat (go_quiet (first | (go_at_call 9; (with_reducible refine (offertorylaw25_awake.calls  true _ (HTab.out.step (by repeat (first | (with_reducible first | exact HB.out | apply below_alloc | apply pw_below_drewN | apply below_drew1 | refine below_set ?_ (Aside0.out (by assumption))) | exact HB.out | refine below_set ?_ (Aside0.out (by assumption))))) A16.out).mono ?_); rintro e w18 ⟨rfl, hb⟩; have n0_ := Aside0.mk (Kd.R_below (by (with_reducible repeat (first | apply Kd.R_alloc | apply Kd.R_drewN | apply Kd.R_drew)); exact (Kd.R_mono (Kd.R_far (p := ⟨gb351, 2, none⟩) (Kd.R_far (p := ⟨gb351, 1, none⟩) (Kd.R_far (p := ⟨gb351, 0, none⟩) (Kd.R_types HO343.out BK351.out (by decide)) (fun _ hk => hk.2) (.slice Ao11 t341.length co11)) (fun _ hk => hk.2) (.slice Ao14 t344.length co14)) (fun _ hk => hk.2) (.slice Ao15 t347.length co15)) (fun _ h_ => h_.1))) hb); have n1_ := Aside0.mk (Kd.R_below (by (with_reducible repeat (first | apply Kd.R_alloc | apply Kd.R_drewN | apply Kd.R_drew)); exact (Kd.R_mono (Kd.R_far (p := ⟨gb351, 2, none⟩) (Kd.R_far (p := ⟨gb351, 1, none⟩) (Kd.R_far (p := ⟨gb351, 0, none⟩) (Kd.R_types HO346.out BK351.out (by decide)) (fun _ hk => hk.2) (.slice Ao11 t341.length co11)) (fun _ hk => hk.2) (.slice Ao14 t344.length co14)) (fun _ hk => hk.2) (.slice Ao15 t347.length co15)) (fun _ h_ => h_.1))) hb); have n2_ := Aside0.mk (Kd.R_below (by (with_reducible repeat (first | apply Kd.R_alloc | apply Kd.R_drewN | apply Kd.R_drew)); exact (Kd.R_mono (Kd.R_far (p := ⟨gb351, 2, none⟩) (Kd.R_far (p := ⟨gb351, 1, none⟩) (Kd.R_far (p := ⟨gb351, 0, none⟩) (Kd.R_types HO349.out BK351.out (by decide)) (fun _ hk => hk.2) (.slice Ao11 t341.length co11)) (fun _ hk => hk.2) (.slice Ao14 t344.length co14)) (fun _ hk => hk.2) (.slice Ao15 t347.length co15)) (fun _ h_ => h_.1))) hb); have n3_ := Aside0.mk (blk_below (g := gb340) (o := .cells #[.slice A1_0 l1_0.length c1_0, .slice A1_1 l1_1.length c1_1] 25 (0, 0)) (by (repeat (first | (with_reducible first | refine blk_drewN ?_ _ | refine blk_drew ?_ | refine blk_alloc ?_ _) | refine blk_far ?_ NB340_351.out _)); (with_reducible repeat (first | refine blk_drewN ?_ _ | refine blk_drew ?_ | refine blk_alloc ?_ _)); exact BK340.out) hb); have n4_ := Aside0.mk (blk_below (g := gb351) (o := .cells #[.slice Ao11 t341.length co11, .slice Ao14 t344.length co14, .slice Ao15 t347.length co15] 30 (0, 0)) (by (with_reducible repeat (first | refine blk_drewN ?_ _ | refine blk_drew ?_ | refine blk_alloc ?_ _)); refine blk_put (cs := #[.slice Ao11 t341.length co11, .slice Ao14 t344.length co14, .slice none 0 0]) ?_ 2 _ rfl; (with_reducible repeat (first | refine blk_drewN ?_ _ | refine blk_drew ?_ | refine blk_alloc ?_ _)); refine blk_put (cs := #[.slice Ao11 t341.length co11, .slice none 0 0, .slice none 0 0]) ?_ 1 _ rfl; (with_reducible repeat (first | refine blk_drewN ?_ _ | refine blk_drew ?_ | refine blk_alloc ?_ _)); refine blk_put (cs := #[.slice none 0 0, .slice none 0 0, .slice none 0 0]) ?_ 0 _ rfl; (with_reducible repeat (first | refine blk_drewN ?_ _ | refine blk_drew ?_ | refine blk_alloc ?_ _)); exact BK351.out) hb); have n5_ := Aside0.mk (below_step (by repeat (first | (with_reducible first | exact HB.out | apply below_alloc | apply pw_below_drewN | apply below_drew1 | refine below_set ?_ GE340.out | refine below_set ?_ GE351.out) | exact HB.out)) hb); clear HO343; clear HO346; clear HO349; clear BK340; clear BK351; clear HB; have HO343 := n0_; have HO346 := n1_; have HO349 := n2_; have BK340 := n3_; have BK351 := n4_; have HB := n5_; clear n0_ n1_ n2_ n3_ n4_ n5_; (try clear hb); (try clear hb2); (try clear hk); (try clear hi))); try go_wp2_with (first | (go_at_call 9; (with_reducible refine (offertorylaw25_awake.calls  true _ (HTab.out.step (by repeat (first | (with_reducible first | exact HB.out | apply below_alloc | apply pw_below_drewN | apply below_drew1 | refine below_set ?_ (Aside0.out (by assumption))) | exact HB.out | refine below_set ?_ (Aside0.out (by assumption))))) A16.out).mono ?_); rintro e w18 ⟨rfl, hb⟩; have n0_ := Aside0.mk (Kd.R_below (by (with_reducible repeat (first | apply Kd.R_alloc | apply Kd.R_drewN | apply Kd.R_drew)); exact (Kd.R_mono (Kd.R_far (p := ⟨gb351, 2, none⟩) (Kd.R_far (p := ⟨gb351, 1, none⟩) (Kd.R_far (p := ⟨gb351, 0, none⟩) (Kd.R_types HO343.out BK351.out (by decide)) (fun _ hk => hk.2) (.slice Ao11 t341.length co11)) (fun _ hk => hk.2) (.slice Ao14 t344.length co14)) (fun _ hk => hk.2) (.slice Ao15 t347.length co15)) (fun _ h_ => h_.1))) hb); have n1_ := Aside0.mk (Kd.R_below (by (with_reducible repeat (first | apply Kd.R_alloc | apply Kd.R_drewN | apply Kd.R_drew)); exact (Kd.R_mono (Kd.R_far (p := ⟨gb351, 2, none⟩) (Kd.R_far (p := ⟨gb351, 1, none⟩) (Kd.R_far (p := ⟨gb351, 0, none⟩) (Kd.R_types HO346.out BK351.out (by decide)) (fun _ hk => hk.2) (.slice Ao11 t341.length co11)) (fun _ hk => hk.2) (.slice Ao14 t344.length co14)) (fun _ hk => hk.2) (.slice Ao15 t347.length co15)) (fun _ h_ => h_.1))) hb); have n2_ := Aside0.mk (Kd.R_below (by (with_reducible repeat (first | apply Kd.R_alloc | apply Kd.R_drewN | apply Kd.R_drew)); exact (Kd.R_mono (Kd.R_far (p := ⟨gb351, 2, none⟩) (Kd.R_far (p := ⟨gb351, 1, none⟩) (Kd.R_far (p := ⟨gb351, 0, none⟩) (Kd.R_types HO349.out BK351.out (by decide)) (fun _ hk => hk.2) (.slice Ao11 t341.length co11)) (fun _ hk => hk.2) (.slice Ao14 t344.length co14)) (fun _ hk => hk.2) (.slice Ao15 t347.length co15)) (fun _ h_ => h_.1))) hb); have n3_ := Aside0.mk (blk_below (g := gb340) (o := .cells #[.slice A1_0 l1_0.length c1_0, .slice A1_1 l1_1.length c1_1] 25 (0, 0)) (by (repeat (first | (with_reducible first | refine blk_drewN ?_ _ | refine blk_drew ?_ | refine blk_alloc ?_ _) | refine blk_far ?_ NB340_351.out _)); (with_reducible repeat (first | refine blk_drewN ?_ _ | refine blk_drew ?_ | refine blk_alloc ?_ _)); exact BK340.out) hb); have n4_ := Aside0.mk (blk_below (g := gb351) (o := .cells #[.slice Ao11 t341.length co11, .slice Ao14 t344.length co14, .slice Ao15 t347.length co15] 30 (0, 0)) (by (with_reducible repeat (first | refine blk_drewN ?_ _ | refine blk_drew ?_ | refine blk_alloc ?_ _)); refine blk_put (cs := #[.slice Ao11 t341.length co11, .slice Ao14 t344.length co14, .slice none 0 0]) ?_ 2 _ rfl; (with_reducible repeat (first | refine blk_drewN ?_ _ | refine blk_drew ?_ | refine blk_alloc ?_ _)); refine blk_put (cs := #[.slice Ao11 t341.length co11, .slice none 0 0, .slice none 0 0]) ?_ 1 _ rfl; (with_reducible repeat (first | refine blk_drewN ?_ _ | refine blk_drew ?_ | refine blk_alloc ?_ _)); refine blk_put (cs := #[.slice none 0 0, .slice none 0 0, .slice none 0 0]) ?_ 0 _ rfl; (with_reducible repeat (first | refine blk_drewN ?_ _ | refine blk_drew ?_ | refine blk_alloc ?_ _)); exact BK351.out) hb); have n5_ := Aside0.mk (below_step (by repeat (first | (with_reducible first | exact HB.out | apply below_alloc | apply pw_below_drewN | apply below_drew1 | refine below_set ?_ GE340.out | refine below_set ?_ GE351.out) | exact HB.out)) hb); clear HO343; clear HO346; clear HO349; clear BK340; clear BK351; clear HB; have HO343 := n0_; have HO346 := n1_; have HO349 := n2_; have BK340 := n3_; have BK351 := n4_; have HB := n5_; clear n0_ n1_ n2_ n3_ n4_ n5_; (try clear hb); (try clear hb2); (try clear hk); (try clear hi))))
   go_meet
   case rel => exact ⟨_, ((t350 != 0)), (by first | rfl | (simp; done) | (simp [*]; done)), H', ⟨by first | omega | exact Nat.le_refl _⟩, ⟨by (with_reducible repeat (first | apply Kd.R_alloc | apply Kd.R_drewN | apply Kd.R_drew)); exact HO343.out⟩, ⟨by (with_reducible repeat (first | apply Kd.R_alloc | apply Kd.R_drewN | apply Kd.R_drew)); exact HO346.out⟩, ⟨by (with_reducible repeat (first | apply Kd.R_alloc | apply Kd.R_drewN | apply Kd.R_drew)); exact HO349.out⟩, ⟨by (with_reducible repeat (first | refine blk_drewN ?_ _ | refine blk_drew ?_ | refine blk_alloc ?_ _)); exact BK340.out⟩, ⟨by (with_reducible repeat (first | refine blk_drewN ?_ _ | refine blk_drew ?_ | refine blk_alloc ?_ _)); exact BK351.out⟩, ⟨by repeat (first | (with_reducible first | exact HB.out | apply below_alloc | apply pw_below_drewN | apply below_drew1 | refine below_set ?_ GE340.out | refine below_set ?_ GE351.out) | exact HB.out)⟩⟩
  ·
   replace c17 := Bool.eq_false_iff.mpr c17
   subst c17
   have H1 : (offertorylaw25_IdealSum.j0 k l0 a3 true t341 t344 t347) = some r := by rw [if_neg (show ¬ (false = true) by decide)] at H; exact H
   clear H
   have H := H1
   clear H1
   have H' := Aside0.mk H
   clear H
   go_wp2_with (first | (go_at_call 9; (with_reducible refine (offertorylaw25_awake.calls  false _ (HTab.out.step (by repeat (first | (with_reducible first | exact HB.out | apply below_alloc | apply pw_below_drewN | apply below_drew1 | refine below_set ?_ (Aside0.out (by assumption))) | exact HB.out | refine below_set ?_ (Aside0.out (by assumption))))) A16.out).mono ?_); rintro e w19 ⟨rfl, hb⟩; have n0_ := Aside0.mk (Kd.R_below (by (with_reducible repeat (first | apply Kd.R_alloc | apply Kd.R_drewN | apply Kd.R_drew)); exact (Kd.R_mono (Kd.R_far (p := ⟨gb351, 2, none⟩) (Kd.R_far (p := ⟨gb351, 1, none⟩) (Kd.R_far (p := ⟨gb351, 0, none⟩) (Kd.R_types HO343.out BK351.out (by decide)) (fun _ hk => hk.2) (.slice Ao11 t341.length co11)) (fun _ hk => hk.2) (.slice Ao14 t344.length co14)) (fun _ hk => hk.2) (.slice Ao15 t347.length co15)) (fun _ h_ => h_.1))) hb); have n1_ := Aside0.mk (Kd.R_below (by (with_reducible repeat (first | apply Kd.R_alloc | apply Kd.R_drewN | apply Kd.R_drew)); exact (Kd.R_mono (Kd.R_far (p := ⟨gb351, 2, none⟩) (Kd.R_far (p := ⟨gb351, 1, none⟩) (Kd.R_far (p := ⟨gb351, 0, none⟩) (Kd.R_types HO346.out BK351.out (by decide)) (fun _ hk => hk.2) (.slice Ao11 t341.length co11)) (fun _ hk => hk.2) (.slice Ao14 t344.length co14)) (fun _ hk => hk.2) (.slice Ao15 t347.length co15)) (fun _ h_ => h_.1))) hb); have n2_ := Aside0.mk (Kd.R_below (by (with_reducible repeat (first | apply Kd.R_alloc | apply Kd.R_drewN | apply Kd.R_drew)); exact (Kd.R_mono (Kd.R_far (p := ⟨gb351, 2, none⟩) (Kd.R_far (p := ⟨gb351, 1, none⟩) (Kd.R_far (p := ⟨gb351, 0, none⟩) (Kd.R_types HO349.out BK351.out (by decide)) (fun _ hk => hk.2) (.slice Ao11 t341.length co11)) (fun _ hk => hk.2) (.slice Ao14 t344.length co14)) (fun _ hk => hk.2) (.slice Ao15 t347.length co15)) (fun _ h_ => h_.1))) hb); have n3_ := Aside0.mk (blk_below (g := gb340) (o := .cells #[.slice A1_0 l1_0.length c1_0, .slice A1_1 l1_1.length c1_1] 25 (0, 0)) (by (repeat (first | (with_reducible first | refine blk_drewN ?_ _ | refine blk_drew ?_ | refine blk_alloc ?_ _) | refine blk_far ?_ NB340_351.out _)); (with_reducible repeat (first | refine blk_drewN ?_ _ | refine blk_drew ?_ | refine blk_alloc ?_ _)); exact BK340.out) hb); have n4_ := Aside0.mk (blk_below (g := gb351) (o := .cells #[.slice Ao11 t341.length co11, .slice Ao14 t344.length co14, .slice Ao15 t347.length co15] 30 (0, 0)) (by (with_reducible repeat (first | refine blk_drewN ?_ _ | refine blk_drew ?_ | refine blk_alloc ?_ _)); refine blk_put (cs := #[.slice Ao11 t341.length co11, .slice Ao14 t344.length co14, .slice none 0 0]) ?_ 2 _ rfl; (with_reducible repeat (first | refine blk_drewN ?_ _ | refine blk_drew ?_ | refine blk_alloc ?_ _)); refine blk_put (cs := #[.slice Ao11 t341.length co11, .slice none 0 0, .slice none 0 0]) ?_ 1 _ rfl; (with_reducible repeat (first | refine blk_drewN ?_ _ | refine blk_drew ?_ | refine blk_alloc ?_ _)); refine blk_put (cs := #[.slice none 0 0, .slice none 0 0, .slice none 0 0]) ?_ 0 _ rfl; (with_reducible repeat (first | refine blk_drewN ?_ _ | refine blk_drew ?_ | refine blk_alloc ?_ _)); exact BK351.out) hb); have n5_ := Aside0.mk (below_step (by repeat (first | (with_reducible first | exact HB.out | apply below_alloc | apply pw_below_drewN | apply below_drew1 | refine below_set ?_ GE340.out | refine below_set ?_ GE351.out) | exact HB.out)) hb); clear HO343; clear HO346; clear HO349; clear BK340; clear BK351; clear HB; have HO343 := n0_; have HO346 := n1_; have HO349 := n2_; have BK340 := n3_; have BK351 := n4_; have HB := n5_; clear n0_ n1_ n2_ n3_ n4_ n5_; (try clear hb); (try clear hb2); (try clear hk); (try clear hi)))
   repeat (go_quiet (first | (go_at_call 9; (with_reducible refine (offertorylaw25_awake.calls  false _ (HTab.out.step (by repeat (first | (with_reducible first | exact HB.out | apply below_alloc | apply pw_below_drewN | apply below_drew1 | refine below_set ?_ (Aside0.out (by assumption))) | exact HB.out | refine below_set ?_ (Aside0.out (by assumption))))) A16.out).mono ?_); rintro e w19 ⟨rfl, hb⟩; have n0_ := Aside0.mk (Kd.R_below (by (with_reducible repeat (first | apply Kd.R_alloc | apply Kd.R_drewN | apply Kd.R_drew)); exact (Kd.R_mono (Kd.R_far (p := ⟨gb351, 2, none⟩) (Kd.R_far (p := ⟨gb351, 1, none⟩) (Kd.R_far (p := ⟨gb351, 0, none⟩) (Kd.R_types HO343.out BK351.out (by decide)) (fun _ hk => hk.2) (.slice Ao11 t341.length co11)) (fun _ hk => hk.2) (.slice Ao14 t344.length co14)) (fun _ hk => hk.2) (.slice Ao15 t347.length co15)) (fun _ h_ => h_.1))) hb); have n1_ := Aside0.mk (Kd.R_below (by (with_reducible repeat (first | apply Kd.R_alloc | apply Kd.R_drewN | apply Kd.R_drew)); exact (Kd.R_mono (Kd.R_far (p := ⟨gb351, 2, none⟩) (Kd.R_far (p := ⟨gb351, 1, none⟩) (Kd.R_far (p := ⟨gb351, 0, none⟩) (Kd.R_types HO346.out BK351.out (by decide)) (fun _ hk => hk.2) (.slice Ao11 t341.length co11)) (fun _ hk => hk.2) (.slice Ao14 t344.length co14)) (fun _ hk => hk.2) (.slice Ao15 t347.length co15)) (fun _ h_ => h_.1))) hb); have n2_ := Aside0.mk (Kd.R_below (by (with_reducible repeat (first | apply Kd.R_alloc | apply Kd.R_drewN | apply Kd.R_drew)); exact (Kd.R_mono (Kd.R_far (p := ⟨gb351, 2, none⟩) (Kd.R_far (p := ⟨gb351, 1, none⟩) (Kd.R_far (p := ⟨gb351, 0, none⟩) (Kd.R_types HO349.out BK351.out (by decide)) (fun _ hk => hk.2) (.slice Ao11 t341.length co11)) (fun _ hk => hk.2) (.slice Ao14 t344.length co14)) (fun _ hk => hk.2) (.slice Ao15 t347.length co15)) (fun _ h_ => h_.1))) hb); have n3_ := Aside0.mk (blk_below (g := gb340) (o := .cells #[.slice A1_0 l1_0.length c1_0, .slice A1_1 l1_1.length c1_1] 25 (0, 0)) (by (repeat (first | (with_reducible first | refine blk_drewN ?_ _ | refine blk_drew ?_ | refine blk_alloc ?_ _) | refine blk_far ?_ NB340_351.out _)); (with_reducible repeat (first | refine blk_drewN ?_ _ | refine blk_drew ?_ | refine blk_alloc ?_ _)); exact BK340.out) hb); have n4_ := Aside0.mk (blk_below (g := gb351) (o := .cells #[.slice Ao11 t341.length co11, .slice Ao14 t344.length co14, .slice Ao15 t347.length co15] 30 (0, 0)) (by (with_reducible repeat (first | refine blk_drewN ?_ _ | refine blk_drew ?_ | refine blk_alloc ?_ _)); refine blk_put (cs := #[.slice Ao11 t341.length co11, .slice Ao14 t344.length co14, .slice none 0 0]) ?_ 2 _ rfl; (with_reducible repeat (first | refine blk_drewN ?_ _ | refine blk_drew ?_ | refine blk_alloc ?_ _)); refine blk_put (cs := #[.slice Ao11 t341.length co11, .slice none 0 0, .slice none 0 0]) ?_ 1 _ rfl; (with_reducible repeat (first | refine blk_drewN ?_ _ | refine blk_drew ?_ | refine blk_alloc ?_ _)); refine blk_put (cs := #[.slice none 0 0, .slice none 0 0, .slice none 0 0]) ?_ 0 _ rfl; (with_reducible repeat (first | refine blk_drewN ?_ _ | refine blk_drew ?_ | refine blk_alloc ?_ _)); exact BK351.out) hb); have n5_ := Aside0.mk (below_step (by repeat (first | (with_reducible first | exact HB.out | apply below_alloc | apply pw_below_drewN | apply below_drew1 | refine below_set ?_ GE340.out | refine below_set ?_ GE351.out) | exact HB.out)) hb); clear HO343; clear HO346; clear HO349; clear BK340; clear BK351; clear HB; have HO343 := n0_; have HO346 := n1_; have HO349 := n2_; have BK340 := n3_; have BK351 := n4_; have HB := n5_; clear n0_ n1_ n2_ n3_ n4_ n5_; (try clear hb); (try clear hb2); (try clear hk); (try clear hi))); try go_wp2_with (first | (go_at_call 9; (with_reducible refine (offertorylaw25_awake.calls  false _ (HTab.out.step (by repeat (first | (with_reducible first | exact HB.out | apply below_alloc | apply pw_below_drewN | apply below_drew1 | refine below_set ?_ (Aside0.out (by assumption))) | exact HB.out | refine below_set ?_ (Aside0.out (by assumption))))) A16.out).mono ?_); rintro e w19 ⟨rfl, hb⟩; have n0_ := Aside0.mk (Kd.R_below (by (with_reducible repeat (first | apply Kd.R_alloc | apply Kd.R_drewN | apply Kd.R_drew)); exact (Kd.R_mono (Kd.R_far (p := ⟨gb351, 2, none⟩) (Kd.R_far (p := ⟨gb351, 1, none⟩) (Kd.R_far (p := ⟨gb351, 0, none⟩) (Kd.R_types HO343.out BK351.out (by decide)) (fun _ hk => hk.2) (.slice Ao11 t341.length co11)) (fun _ hk => hk.2) (.slice Ao14 t344.length co14)) (fun _ hk => hk.2) (.slice Ao15 t347.length co15)) (fun _ h_ => h_.1))) hb); have n1_ := Aside0.mk (Kd.R_below (by (with_reducible repeat (first | apply Kd.R_alloc | apply Kd.R_drewN | apply Kd.R_drew)); exact (Kd.R_mono (Kd.R_far (p := ⟨gb351, 2, none⟩) (Kd.R_far (p := ⟨gb351, 1, none⟩) (Kd.R_far (p := ⟨gb351, 0, none⟩) (Kd.R_types HO346.out BK351.out (by decide)) (fun _ hk => hk.2) (.slice Ao11 t341.length co11)) (fun _ hk => hk.2) (.slice Ao14 t344.length co14)) (fun _ hk => hk.2) (.slice Ao15 t347.length co15)) (fun _ h_ => h_.1))) hb); have n2_ := Aside0.mk (Kd.R_below (by (with_reducible repeat (first | apply Kd.R_alloc | apply Kd.R_drewN | apply Kd.R_drew)); exact (Kd.R_mono (Kd.R_far (p := ⟨gb351, 2, none⟩) (Kd.R_far (p := ⟨gb351, 1, none⟩) (Kd.R_far (p := ⟨gb351, 0, none⟩) (Kd.R_types HO349.out BK351.out (by decide)) (fun _ hk => hk.2) (.slice Ao11 t341.length co11)) (fun _ hk => hk.2) (.slice Ao14 t344.length co14)) (fun _ hk => hk.2) (.slice Ao15 t347.length co15)) (fun _ h_ => h_.1))) hb); have n3_ := Aside0.mk (blk_below (g := gb340) (o := .cells #[.slice A1_0 l1_0.length c1_0, .slice A1_1 l1_1.length c1_1] 25 (0, 0)) (by (repeat (first | (with_reducible first | refine blk_drewN ?_ _ | refine blk_drew ?_ | refine blk_alloc ?_ _) | refine blk_far ?_ NB340_351.out _)); (with_reducible repeat (first | refine blk_drewN ?_ _ | refine blk_drew ?_ | refine blk_alloc ?_ _)); exact BK340.out) hb); have n4_ := Aside0.mk (blk_below (g := gb351) (o := .cells #[.slice Ao11 t341.length co11, .slice Ao14 t344.length co14, .slice Ao15 t347.length co15] 30 (0, 0)) (by (with_reducible repeat (first | refine blk_drewN ?_ _ | refine blk_drew ?_ | refine blk_alloc ?_ _)); refine blk_put (cs := #[.slice Ao11 t341.length co11, .slice Ao14 t344.length co14, .slice none 0 0]) ?_ 2 _ rfl; (with_reducible repeat (first | refine blk_drewN ?_ _ | refine blk_drew ?_ | refine blk_alloc ?_ _)); refine blk_put (cs := #[.slice Ao11 t341.length co11, .slice none 0 0, .slice none 0 0]) ?_ 1 _ rfl; (with_reducible repeat (first | refine blk_drewN ?_ _ | refine blk_drew ?_ | refine blk_alloc ?_ _)); refine blk_put (cs := #[.slice none 0 0, .slice none 0 0, .slice none 0 0]) ?_ 0 _ rfl; (with_reducible repeat (first | refine blk_drewN ?_ _ | refine blk_drew ?_ | refine blk_alloc ?_ _)); exact BK351.out) hb); have n5_ := Aside0.mk (below_step (by repeat (first | (with_reducible first | exact HB.out | apply below_alloc | apply pw_below_drewN | apply below_drew1 | refine below_set ?_ GE340.out | refine below_set ?_ GE351.out) | exact HB.out)) hb); clear HO343; clear HO346; clear HO349; clear BK340; clear BK351; clear HB; have HO343 := n0_; have HO346 := n1_; have HO349 := n2_; have BK340 := n3_; have BK351 := n4_; have HB := n5_; clear n0_ n1_ n2_ n3_ n4_ n5_; (try clear hb); (try clear hb2); (try clear hk); (try clear hi))))
   go_meet
   case rel => exact ⟨_, (true), (by first | rfl | (simp; done) | (simp [*]; done)), H', ⟨by first | omega | exact Nat.le_refl _⟩, ⟨by (with_reducible repeat (first | apply Kd.R_alloc | apply Kd.R_drewN | apply Kd.R_drew)); exact HO343.out⟩, ⟨by (with_reducible repeat (first | apply Kd.R_alloc | apply Kd.R_drewN | apply Kd.R_drew)); exact HO346.out⟩, ⟨by (with_reducible repeat (first | apply Kd.R_alloc | apply Kd.R_drewN | apply Kd.R_drew)); exact HO349.out⟩, ⟨by (with_reducible repeat (first | refine blk_drewN ?_ _ | refine blk_drew ?_ | refine blk_alloc ?_ _)); exact BK340.out⟩, ⟨by (with_reducible repeat (first | refine blk_drewN ?_ _ | refine blk_drew ?_ | refine blk_alloc ?_ _)); exact BK351.out⟩, ⟨by repeat (first | (with_reducible first | exact HB.out | apply below_alloc | apply pw_below_drewN | apply below_drew1 | refine below_set ?_ GE340.out | refine below_set ?_ GE351.out) | exact HB.out)⟩⟩
 case rest =>
  clear HC6
  try clear c1
  try clear p2
  try clear c7
  try clear c12
  try clear c17
  try clear hcz13_0
  try clear hcz13_1
  try clear hcz13_2
  try clear hcz8_0
  try clear hcz8_1
  try clear hfz13_0
  try clear hfz13_1
  try clear hfz13_2
  try clear hfz8_0
  try clear hfz8_1
  obtain ⟨kq, x29_5, rfl, HA, HJ5, HO_352000, HO_352001, HO_352002, BK340, BK351, HB⟩ := hcut
  cases kq with
  | zero => exact absurd HA.out (by simp [offertorylaw25_IdealSum.j0])
  | succ kj5 =>
   have H := HA.out
   clear HA
   simp only [offertorylaw25_IdealSum.j0] at H
   by_cases c20 : x29_5 = true
   ·
    subst c20
    have H1 : ((offertorylaw25_awake.f).bind fun t353 => (some t353)) = some r := by rw [if_pos rfl] at H; exact H
    clear H
    have H := H1
    clear H1
    replace H := Option.bind_eq_some_iff.mp H
    obtain ⟨t353, A210, H⟩ := H
    replace H : (some t353) = some r := H
    have A21 := Aside0.mk A210
    clear A210
    obtain rfl := Option.some.inj H
    go_wp2_with (first | (go_at_call 9; (with_reducible refine (offertorylaw25_awake.calls  t353 _ (HTab.out.step (by repeat (first | (with_reducible first | exact HB.out | apply below_alloc | apply pw_below_drewN | apply below_drew1 | refine below_set ?_ (Aside0.out (by assumption))) | exact HB.out | refine below_set ?_ (Aside0.out (by assumption))))) A21.out).mono ?_); rintro e w22 ⟨rfl, hb⟩; have n0_ := Aside0.mk (Kd.R_below (by (with_reducible repeat (first | apply Kd.R_alloc | apply Kd.R_drewN | apply Kd.R_drew)); exact HO_352000.out) hb); have n1_ := Aside0.mk (Kd.R_below (by (with_reducible repeat (first | apply Kd.R_alloc | apply Kd.R_drewN | apply Kd.R_drew)); exact HO_352001.out) hb); have n2_ := Aside0.mk (Kd.R_below (by (with_reducible repeat (first | apply Kd.R_alloc | apply Kd.R_drewN | apply Kd.R_drew)); exact HO_352002.out) hb); have n3_ := offertorylaw25_IdealSum.keepB BK340 hb; have n4_ := offertorylaw25_IdealSum.keepB BK351 hb; have n5_ := Aside0.mk (below_step (by repeat (first | (with_reducible first | exact HB.out | apply below_alloc | apply pw_below_drewN | apply below_drew1 | refine below_set ?_ GE340.out | refine below_set ?_ GE351.out) | exact HB.out)) hb); clear HO_352000; clear HO_352001; clear HO_352002; clear BK340; clear BK351; clear HB; have HO_352000 := n0_; have HO_352001 := n1_; have HO_352002 := n2_; have BK340 := n3_; have BK351 := n4_; have HB := n5_; clear n0_ n1_ n2_ n3_ n4_ n5_; (try clear hb); (try clear hb2); (try clear hk); (try clear hi)))
    repeat (go_quiet (first | (go_at_call 9; (with_reducible refine (offertorylaw25_awake.calls  t353 _ (HTab.out.step (by repeat (first | (with_reducible first | exact HB.out | apply below_alloc | apply pw_below_drewN | apply below_drew1 | refine below_set ?_ (Aside0.out (by assumption))) | exact HB.out | refine below_set ?_ (Aside0.out (by assumption))))) A21.out).mono ?_); rintro e w22 ⟨rfl, hb⟩; have n0_ := Aside0.mk (Kd.R_below (by (with_reducible repeat (first | apply Kd.R_alloc | apply Kd.R_drewN | apply Kd.R_drew)); exact HO_352000.out) hb); have n1_ := Aside0.mk (Kd.R_below (by (with_reducible repeat (first | apply Kd.R_alloc | apply Kd.R_drewN | apply Kd.R_drew)); exact HO_352001.out) hb); have n2_ := Aside0.mk (Kd.R_below (by (with_reducible repeat (first | apply Kd.R_alloc | apply Kd.R_drewN | apply Kd.R_drew)); exact HO_352002.out) hb); have n3_ := offertorylaw25_IdealSum.keepB BK340 hb; have n4_ := offertorylaw25_IdealSum.keepB BK351 hb; have n5_ := Aside0.mk (below_step (by repeat (first | (with_reducible first | exact HB.out | apply below_alloc | apply pw_below_drewN | apply below_drew1 | refine below_set ?_ GE340.out | refine below_set ?_ GE351.out) | exact HB.out)) hb); clear HO_352000; clear HO_352001; clear HO_352002; clear BK340; clear BK351; clear HB; have HO_352000 := n0_; have HO_352001 := n1_; have HO_352002 := n2_; have BK340 := n3_; have BK351 := n4_; have HB := n5_; clear n0_ n1_ n2_ n3_ n4_ n5_; (try clear hb); (try clear hb2); (try clear hk); (try clear hi))); try go_wp2_with (first | (go_at_call 9; (with_reducible refine (offertorylaw25_awake.calls  t353 _ (HTab.out.step (by repeat (first | (with_reducible first | exact HB.out | apply below_alloc | apply pw_below_drewN | apply below_drew1 | refine below_set ?_ (Aside0.out (by assumption))) | exact HB.out | refine below_set ?_ (Aside0.out (by assumption))))) A21.out).mono ?_); rintro e w22 ⟨rfl, hb⟩; have n0_ := Aside0.mk (Kd.R_below (by (with_reducible repeat (first | apply Kd.R_alloc | apply Kd.R_drewN | apply Kd.R_drew)); exact HO_352000.out) hb); have n1_ := Aside0.mk (Kd.R_below (by (with_reducible repeat (first | apply Kd.R_alloc | apply Kd.R_drewN | apply Kd.R_drew)); exact HO_352001.out) hb); have n2_ := Aside0.mk (Kd.R_below (by (with_reducible repeat (first | apply Kd.R_alloc | apply Kd.R_drewN | apply Kd.R_drew)); exact HO_352002.out) hb); have n3_ := offertorylaw25_IdealSum.keepB BK340 hb; have n4_ := offertorylaw25_IdealSum.keepB BK351 hb; have n5_ := Aside0.mk (below_step (by repeat (first | (with_reducible first | exact HB.out | apply below_alloc | apply pw_below_drewN | apply below_drew1 | refine below_set ?_ GE340.out | refine below_set ?_ GE351.out) | exact HB.out)) hb); clear HO_352000; clear HO_352001; clear HO_352002; clear BK340; clear BK351; clear HB; have HO_352000 := n0_; have HO_352001 := n1_; have HO_352002 := n2_; have BK340 := n3_; have BK351 := n4_; have HB := n5_; clear n0_ n1_ n2_ n3_ n4_ n5_; (try clear hb); (try clear hb2); (try clear hk); (try clear hi))))
    go_ret
    exact ⟨by first | rfl | (simp [errW_none, errW_some] <;> rfl) | (simp [*, errW_none, errW_some] <;> rfl), by repeat (first | (with_reducible first | exact HB.out | apply below_alloc | apply pw_below_drewN | apply below_drew1 | refine below_set ?_ GE340.out | refine below_set ?_ GE351.out) | exact HB.out)⟩
   ·
    replace c20 := Bool.eq_false_iff.mpr c20
    subst c20
    have H1 : (offertorylaw25_IdealSum.l0 kj5 l0 a3 0 t341 t344 t347) = some r := by rw [if_neg (show ¬ (false = true) by decide)] at H; exact H
    clear H
    have H := H1
    clear H1
    have H' := Aside0.mk H
    clear H
    go_wp2
    repeat (go_quiet (fail); try go_wp2)
    go_loopg [11] kj5 (fun kq v11 w' => ∃ (x11_2 : Int), v11 = .int .i64 x11_2 ∧ Aside0 (offertorylaw25_IdealSum.l0 kq l0 a3 x11_2 t341 t344 t347 = some r) ∧ Aside0 (kq ≤ kj5) ∧ Aside0 (Kd.R (Kd.slice 37 (Kd.int .u32)) 35 w' w.heap.size (fun k_ => some k_ ≠ ((.slice Ao14 t344.length co14) : Value).ownBlock) (.slice Ao11 t341.length co11) t341) ∧ Aside0 (Kd.R (Kd.slice 37 (Kd.int .u32)) 35 w' w.heap.size (fun k_ => some k_ ≠ ((.slice Ao11 t341.length co11) : Value).ownBlock) (.slice Ao14 t344.length co14) t344) ∧ Aside0 (Kd.R (Kd.slice 35 (Kd.slice 37 (Kd.int .u32))) 22 w' w.heap.size (fun k_ => some k_ ≠ ((.slice Ao11 t341.length co11) : Value).ownBlock ∧ some k_ ≠ ((.slice Ao14 t344.length co14) : Value).ownBlock) (.slice Ao15 t347.length co15) t347) ∧ Aside0 (w'.heap[gb340]? = some (.cells #[(.slice A1_0 l1_0.length c1_0), (.slice A1_1 l1_1.length c1_1)] 25 (0, 0))) ∧ Aside0 (w'.heap[gb351]? = some (.cells #[(.slice Ao11 t341.length co11), (.slice Ao14 t344.length co14), (.slice Ao15 t347.length co15)] 30 (0, 0))) ∧ Aside0 (Below w.heap.size w w'))
    case atStart => exact ⟨(0), (by first | rfl | (simp; done) | (simp [*]; done)), H', ⟨Nat.le_refl _⟩, ⟨by (with_reducible repeat (first | apply Kd.R_alloc | apply Kd.R_drewN | apply Kd.R_drew)); exact HO_352000.out⟩, ⟨by (with_reducible repeat (first | apply Kd.R_alloc | apply Kd.R_drewN | apply Kd.R_drew)); exact HO_352001.out⟩, ⟨by (with_reducible repeat (first | apply Kd.R_alloc | apply Kd.R_drewN | apply Kd.R_drew)); exact HO_352002.out⟩, ⟨by (with_reducible repeat (first | refine blk_drewN ?_ _ | refine blk_drew ?_ | refine blk_alloc ?_ _)); exact BK340.out⟩, ⟨by (with_reducible repeat (first | refine blk_drewN ?_ _ | refine blk_drew ?_ | refine blk_alloc ?_ _)); exact BK351.out⟩, ⟨by repeat (first | (with_reducible first | exact HB.out | apply below_alloc | apply pw_below_drewN | apply below_drew1 | refine below_set ?_ GE340.out | refine below_set ?_ GE351.out) | exact HB.out)⟩⟩
    case round =>
     clear H'
     try clear c1
     try clear c2
     try clear p2
     try clear c7
     try clear c12
     try clear c17
     try clear c20
     try clear hcz13_0
     try clear hcz13_1
     try clear hcz13_2
     try clear hcz8_0
     try clear hcz8_1
     try clear hfz13_0
     try clear hfz13_1
     try clear hfz13_2
     try clear hfz8_0
     try clear hfz8_1
     try clear p2
     obtain ⟨x11_2, rfl, HA, HK2, HO_352000, HO_352001, HO_352002, BK340, BK351, HB⟩ := hrel
     cases gk with
     | zero => exact absurd HA.out (by simp [offertorylaw25_IdealSum.l0])
     | succ k2 =>
      have H := HA.out
      clear HA
      simp only [offertorylaw25_IdealSum.l0] at H
      by_cases c23 : 0 < (l0.length : Int)
      ·
       rw [if_pos c23] at H
       have c23b0 : decide (0 < (l0.length : Int)) = true := decide_eq_true c23
       have c23b1 : decide (0 < l0.length) = true := decide_eq_true (by omega)
       clear c23
       by_cases c24 : x11_2 < ((rd_L1 l0 0).length : Int)
       ·
        rw [if_pos c24] at H
        have c24b0 : decide (x11_2 < ((rd_L1 l0 0).length : Int)) = true := decide_eq_true c24
        clear c24
        have H' := Aside0.mk H
        clear H
        have p354 : 0 ≤ (0 : Int) := (by omega)
        have q354 : 0 < (l0.length : Int) := of_decide_eq_true (by first | (with_reducible assumption) | assumption)
        obtain ⟨ad354, A354_0, c354_0, e354, hx354_0, hl354_0, hi354_0⟩ := at_L1 HR0.out 0 p354 q354
        cases e354
        have qi354 : (0 < l0.length) = True := eq_true (by omega)
        (try rw [show ((0 : Int)).toNat = 0 from rfl] at hx354_0)
        (try rw [Addr.add_zero'] at hx354_0)
        replace hx354_0 := (HB.out.cell (World.block_lt_of_cell? w _ hx354_0)).trans hx354_0
        have HR354_0 := Aside0.mk hi354_0
        have HC354_0 := Aside0.mk hl354_0
        clear hi354_0 hl354_0
        replace p354 := eq_true p354
        replace q354 := eq_true q354
        go_wp2
        repeat (go_quiet (fail); try go_wp2)
        go_loopg [12, 13, 14] k2 (fun kq v12 v13 v14 w' => ∃ (x12_3 : Int) (x13_3 : Int) (x14_3 : Int), v12 = .int .u32 x12_3 ∧ v13 = .int .u32 x13_3 ∧ v14 = .int .i64 x14_3 ∧ Aside0 (offertorylaw25_IdealSum.l1 kq l0 a3 x11_2 x12_3 x13_3 x14_3 t341 t344 t347 = some r) ∧ Aside0 (kq ≤ k2) ∧ Aside0 (Kd.R (Kd.slice 37 (Kd.int .u32)) 35 w' w.heap.size (fun k_ => some k_ ≠ ((.slice Ao14 t344.length co14) : Value).ownBlock) (.slice Ao11 t341.length co11) t341) ∧ Aside0 (Kd.R (Kd.slice 37 (Kd.int .u32)) 35 w' w.heap.size (fun k_ => some k_ ≠ ((.slice Ao11 t341.length co11) : Value).ownBlock) (.slice Ao14 t344.length co14) t344) ∧ Aside0 (Kd.R (Kd.slice 35 (Kd.slice 37 (Kd.int .u32))) 22 w' w.heap.size (fun k_ => some k_ ≠ ((.slice Ao11 t341.length co11) : Value).ownBlock ∧ some k_ ≠ ((.slice Ao14 t344.length co14) : Value).ownBlock) (.slice Ao15 t347.length co15) t347) ∧ Aside0 (w'.heap[gb340]? = some (.cells #[(.slice A1_0 l1_0.length c1_0), (.slice A1_1 l1_1.length c1_1)] 25 (0, 0))) ∧ Aside0 (w'.heap[gb351]? = some (.cells #[(.slice Ao11 t341.length co11), (.slice Ao14 t344.length co14), (.slice Ao15 t347.length co15)] 30 (0, 0))) ∧ Aside0 (Below w.heap.size w w'))
        case atStart => exact ⟨(0), (0), (0), (by first | rfl | (simp; done) | (simp [*]; done)), (by first | rfl | (simp; done) | (simp [*]; done)), (by first | rfl | (simp; done) | (simp [*]; done)), H', ⟨Nat.le_refl _⟩, ⟨by (with_reducible repeat (first | apply Kd.R_alloc | apply Kd.R_drewN | apply Kd.R_drew)); exact HO_352000.out⟩, ⟨by (with_reducible repeat (first | apply Kd.R_alloc | apply Kd.R_drewN | apply Kd.R_drew)); exact HO_352001.out⟩, ⟨by (with_reducible repeat (first | apply Kd.R_alloc | apply Kd.R_drewN | apply Kd.R_drew)); exact HO_352002.out⟩, ⟨by (with_reducible repeat (first | refine blk_drewN ?_ _ | refine blk_drew ?_ | refine blk_alloc ?_ _)); exact BK340.out⟩, ⟨by (with_reducible repeat (first | refine blk_drewN ?_ _ | refine blk_drew ?_ | refine blk_alloc ?_ _)); exact BK351.out⟩, ⟨by repeat (first | (with_reducible first | exact HB.out | apply below_alloc | apply pw_below_drewN | apply below_drew1 | refine below_set ?_ GE340.out | refine below_set ?_ GE351.out) | exact HB.out)⟩⟩
        case round =>
         clear H'
         try clear c1
         try clear c2
         try clear p2
         try clear c3
         try clear p3
         try clear q3
         try clear hx3
         try clear qi3
         try clear c7
         try clear c12
         try clear c17
         try clear c20
         try clear c23
         try clear c23b0
         try clear c23b1
         try clear c24
         try clear c24b0
         try clear hcz13_0
         try clear hcz13_1
         try clear hcz13_2
         try clear hcz8_0
         try clear hcz8_1
         try clear hfz13_0
         try clear hfz13_1
         try clear hfz13_2
         try clear hfz8_0
         try clear hfz8_1
         try clear hx354_0
         try clear p2
         try clear p354
         try clear q354
         obtain ⟨x12_3, x13_3, x14_3, rfl, rfl, rfl, HA, HK3, HO_352000, HO_352001, HO_352002, BK340, BK351, HB⟩ := hrel
         cases gk with
         | zero => exact absurd HA.out (by simp [offertorylaw25_IdealSum.l1])
         | succ k3 =>
          have H := HA.out
          clear HA
          simp only [offertorylaw25_IdealSum.l1] at H
          by_cases c25 : x14_3 < (l0.length : Int)
          ·
           rw [if_pos c25] at H
           have c25b0 : decide (x14_3 < (l0.length : Int)) = true := decide_eq_true c25
           clear c25
           replace H := Option.bind_eq_some_iff.mp H
           obtain ⟨t355, A260, H⟩ := H
           replace H : (if t355 = true then (if 0 ≤ x14_3 then (if 0 ≤ x11_2 then (if x11_2 < ((rd_L1 l0 x14_3).length : Int) then (if x14_3 < (t341.length : Int) then (if x11_2 < ((rd_L1 t341 x14_3).length : Int) then (if x14_3 < (t344.length : Int) then (if x11_2 < ((rd_L1 t344 x14_3).length : Int) then (offertorylaw25_IdealSum.l2 k3 l0 a3 x11_2 ((x12_3 + (((rd (rd_L1 t341 x14_3) x11_2) - (rd (rd_L1 t344 x14_3) x11_2)) % 4294967296)) % 4294967296) ((x13_3 + (rd (rd_L1 l0 x14_3) x11_2)) % 4294967296) x14_3 0 t341 t344 t347) else (none)) else (none)) else (none)) else (none)) else (none)) else (none)) else (none)) else (offertorylaw25_IdealSum.l1 k3 l0 a3 x11_2 x12_3 x13_3 (wrap64 (x14_3 + 1)) t341 t344 t347)) = some r := H
           have A26 := Aside0.mk A260
           clear A260
           by_cases c27 : t355 = true
           ·
            subst c27
            have H1 : (if 0 ≤ x14_3 then (if 0 ≤ x11_2 then (if x11_2 < ((rd_L1 l0 x14_3).length : Int) then (if x14_3 < (t341.length : Int) then (if x11_2 < ((rd_L1 t341 x14_3).length : Int) then (if x14_3 < (t344.length : Int) then (if x11_2 < ((rd_L1 t344 x14_3).length : Int) then (offertorylaw25_IdealSum.l2 k3 l0 a3 x11_2 ((x12_3 + (((rd (rd_L1 t341 x14_3) x11_2) - (rd (rd_L1 t344 x14_3) x11_2)) % 4294967296)) % 4294967296) ((x13_3 + (rd (rd_L1 l0 x14_3) x11_2)) % 4294967296) x14_3 0 t341 t344 t347) else (none)) else (none)) else (none)) else (none)) else (none)) else (none)) else (none)) = some r := by rw [if_pos rfl] at H; exact H
            clear H
            have H := H1
            clear H1
            by_cases c28 : 0 ≤ x14_3
            ·
             rw [if_pos c28] at H
             have c28b0 : decide (0 ≤ x14_3) = true := decide_eq_true c28
             clear c28
             by_cases c29 : 0 ≤ x11_2
             ·
              rw [if_pos c29] at H
              have c29b0 : decide (0 ≤ x11_2) = true := decide_eq_true c29
              clear c29
              by_cases c30 : x11_2 < ((rd_L1 l0 x14_3).length : Int)
              ·
               rw [if_pos c30] at H
               have c30b0 : decide (x11_2 < ((rd_L1 l0 x14_3).length : Int)) = true := decide_eq_true c30
               clear c30
               by_cases c31 : x14_3 < (t341.length : Int)
               ·
                rw [if_pos c31] at H
                have c31b0 : decide (x14_3 < (t341.length : Int)) = true := decide_eq_true c31
                clear c31
                by_cases c32 : x11_2 < ((rd_L1 t341 x14_3).length : Int)
                ·
                 rw [if_pos c32] at H
                 have c32b0 : decide (x11_2 < ((rd_L1 t341 x14_3).length : Int)) = true := decide_eq_true c32
                 clear c32
                 by_cases c33 : x14_3 < (t344.length : Int)
                 ·
                  rw [if_pos c33] at H
                  have c33b0 : decide (x14_3 < (t344.length : Int)) = true := decide_eq_true c33
                  clear c33
                  by_cases c34 : x11_2 < ((rd_L1 t344 x14_3).length : Int)
                  ·
                   rw [if_pos c34] at H
                   have c34b0 : decide (x11_2 < ((rd_L1 t344 x14_3).length : Int)) = true := decide_eq_true c34
                   clear c34
                   have H' := Aside0.mk H
                   clear H
                   go_wp2_with (first | (go_at_call 14; (with_reducible refine (offertorylaw25_in.calls a3 x14_3 true _ A26.out).mono ?_); rintro e w' ⟨rfl, ⟨nd, rfl⟩⟩; (try first | exact ⟨rfl, _, World.drewN_drewN _ _ _⟩ | exact ⟨rfl, _, Eq.trans (World.drewN_drewN _ _ _) (congrArg (World.drewN _) (Nat.add_assoc _ _ _))⟩); have p356 : 0 ≤ (x14_3 : Int) := of_decide_eq_true (by first | (with_reducible assumption) | assumption); have q356 : x14_3 < (l0.length : Int) := of_decide_eq_true (by first | (with_reducible assumption) | assumption); obtain ⟨ad356, A356_0, c356_0, e356, hx356_0, hl356_0, hi356_0⟩ := at_L1 HR0.out x14_3 p356 q356; obtain rfl : ad354 = ad356 := (by injection e356); replace hx356_0 := (HB.out.cell (World.block_lt_of_cell? w _ hx356_0)).trans hx356_0; have HR356_0 := Aside0.mk hi356_0; have HC356_0 := Aside0.mk hl356_0; clear hi356_0 hl356_0; replace p356 := eq_true p356; replace q356 := eq_true q356; have p357 : 0 ≤ (x11_2 : Int) := of_decide_eq_true (by first | (with_reducible assumption) | assumption); have q357 : x11_2 < ((rd_L1 l0 x14_3).length : Int) := of_decide_eq_true (by first | (with_reducible assumption) | assumption); obtain ⟨ad357, e357, hx357_0⟩ := Kd.at_int HR356_0.out x11_2 p357 q357; cases e357; replace hx357_0 := (HB.out.cell (World.block_lt_of_cell? w _ hx357_0)).trans hx357_0; replace p357 := eq_true p357; replace q357 := eq_true q357; have hnb35 := NB351_340.out; have hnc35 := NB340_351.out; have hcz36_0 : wr.cell? ⟨gb351, 0, none⟩ = some (.slice Ao11 t341.length co11) := (blk_cell BK351.out 0).trans rfl; have hcz36_1 : wr.cell? ⟨gb351, 1, none⟩ = some (.slice Ao14 t344.length co14) := (blk_cell BK351.out 1).trans rfl; have hcz36_2 : wr.cell? ⟨gb351, 2, none⟩ = some (.slice Ao15 t347.length co15) := (blk_cell BK351.out 2).trans rfl; have hfz36_0 := blk_frozen BK351.out 0; have hfz36_1 := blk_frozen BK351.out 1; have hfz36_2 := blk_frozen BK351.out 2; have p358 : 0 ≤ (x14_3 : Int) := of_decide_eq_true (by first | (with_reducible assumption) | assumption); have q358 : x14_3 < (t341.length : Int) := of_decide_eq_true (by first | (with_reducible assumption) | assumption); obtain ⟨ad358, A358_0, c358_0, e358, hx358_0, hl358_0, hi358_0⟩ := at_L1 (Kd.R_reads' HO_352000.out).2.2 x14_3 p358 q358; cases e358; obtain ⟨ce358, hce358, hMe358, hcc358⟩ := Kd.R_get HO_352000.out [] x14_3 p358 (by first | exact q358 | exact of_decide_eq_true (by first | (with_reducible assumption) | assumption) | (have e_ := (Kd.R_reads' HO_352000.out).1; omega)); obtain ⟨ve358_0, rfl, ge358_0⟩ := hMe358; have hv358_0 := hcc358 0 _ rfl; rw [Nat.add_zero, show ((Kd.slice 37 (Kd.int .u32))).sz = 1 from rfl, Nat.mul_one] at hv358_0; replace hv358_0 := Option.some.inj (hv358_0.symm.trans hx358_0); rw [hv358_0] at ge358_0; have HL358_0 := Aside0.mk (show Kd.R (Kd.int .u32) 37 _ _ _ _ (rd_L1 t341 x14_3) from ge358_0); clear hv358_0 ge358_0; clear hcc358 hce358; have HR358_0 := Aside0.mk hi358_0; have HC358_0 := Aside0.mk hl358_0; clear hi358_0 hl358_0; replace p358 := eq_true p358; replace q358 := eq_true q358; have p359 : 0 ≤ (x11_2 : Int) := of_decide_eq_true (by first | (with_reducible assumption) | assumption); have q359 : x11_2 < ((rd_L1 t341 x14_3).length : Int) := of_decide_eq_true (by first | (with_reducible assumption) | assumption); obtain ⟨ad359, e359, hx359_0⟩ := Kd.at_int (by repeat (first | (with_reducible exact HR358_0.out) | (with_reducible refine Kd.C_alloc ?_ _) | (with_reducible refine Kd.C_drewN ?_ _) | (with_reducible refine Kd.C_drew ?_) | exact HR358_0.out)) x11_2 p359 q359; cases e359; replace p359 := eq_true p359; replace q359 := eq_true q359; have p360 : 0 ≤ (x14_3 : Int) := of_decide_eq_true (by first | (with_reducible assumption) | assumption); have q360 : x14_3 < (t344.length : Int) := of_decide_eq_true (by first | (with_reducible assumption) | assumption); obtain ⟨ad360, A360_0, c360_0, e360, hx360_0, hl360_0, hi360_0⟩ := at_L1 (Kd.R_reads' HO_352001.out).2.2 x14_3 p360 q360; cases e360; obtain ⟨ce360, hce360, hMe360, hcc360⟩ := Kd.R_get HO_352001.out [] x14_3 p360 (by first | exact q360 | exact of_decide_eq_true (by first | (with_reducible assumption) | assumption) | (have e_ := (Kd.R_reads' HO_352001.out).1; omega)); obtain ⟨ve360_0, rfl, ge360_0⟩ := hMe360; have hv360_0 := hcc360 0 _ rfl; rw [Nat.add_zero, show ((Kd.slice 37 (Kd.int .u32))).sz = 1 from rfl, Nat.mul_one] at hv360_0; replace hv360_0 := Option.some.inj (hv360_0.symm.trans hx360_0); rw [hv360_0] at ge360_0; have HL360_0 := Aside0.mk (show Kd.R (Kd.int .u32) 37 _ _ _ _ (rd_L1 t344 x14_3) from ge360_0); clear hv360_0 ge360_0; clear hcc360 hce360; have HR360_0 := Aside0.mk hi360_0; have HC360_0 := Aside0.mk hl360_0; clear hi360_0 hl360_0; replace p360 := eq_true p360; replace q360 := eq_true q360; have p361 : 0 ≤ (x11_2 : Int) := of_decide_eq_true (by first | (with_reducible assumption) | assumption); have q361 : x11_2 < ((rd_L1 t344 x14_3).length : Int) := of_decide_eq_true (by first | (with_reducible assumption) | assumption); obtain ⟨ad361, e361, hx361_0⟩ := Kd.at_int (by repeat (first | (with_reducible exact HR360_0.out) | (with_reducible refine Kd.C_alloc ?_ _) | (with_reducible refine Kd.C_drewN ?_ _) | (with_reducible refine Kd.C_drew ?_) | exact HR360_0.out)) x11_2 p361 q361; cases e361; replace p361 := eq_true p361; replace q361 := eq_true q361))
                   repeat (go_quiet (first | (go_at_call 14; (with_reducible refine (offertorylaw25_in.calls a3 x14_3 true _ A26.out).mono ?_); rintro e w' ⟨rfl, ⟨nd, rfl⟩⟩; (try first | exact ⟨rfl, _, World.drewN_drewN _ _ _⟩ | exact ⟨rfl, _, Eq.trans (World.drewN_drewN _ _ _) (congrArg (World.drewN _) (Nat.add_assoc _ _ _))⟩); have p356 : 0 ≤ (x14_3 : Int) := of_decide_eq_true (by first | (with_reducible assumption) | assumption); have q356 : x14_3 < (l0.length : Int) := of_decide_eq_true (by first | (with_reducible assumption) | assumption); obtain ⟨ad356, A356_0, c356_0, e356, hx356_0, hl356_0, hi356_0⟩ := at_L1 HR0.out x14_3 p356 q356; obtain rfl : ad354 = ad356 := (by injection e356); replace hx356_0 := (HB.out.cell (World.block_lt_of_cell? w _ hx356_0)).trans hx356_0; have HR356_0 := Aside0.mk hi356_0; have HC356_0 := Aside0.mk hl356_0; clear hi356_0 hl356_0; replace p356 := eq_true p356; replace q356 := eq_true q356; have p357 : 0 ≤ (x11_2 : Int) := of_decide_eq_true (by first | (with_reducible assumption) | assumption); have q357 : x11_2 < ((rd_L1 l0 x14_3).length : Int) := of_decide_eq_true (by first | (with_reducible assumption) | assumption); obtain ⟨ad357, e357, hx357_0⟩ := Kd.at_int HR356_0.out x11_2 p357 q357; cases e357; replace hx357_0 := (HB.out.cell (World.block_lt_of_cell? w _ hx357_0)).trans hx357_0; replace p357 := eq_true p357; replace q357 := eq_true q357; have hnb35 := NB351_340.out; have hnc35 := NB340_351.out; have hcz36_0 : wr.cell? ⟨gb351, 0, none⟩ = some (.slice Ao11 t341.length co11) := (blk_cell BK351.out 0).trans rfl; have hcz36_1 : wr.cell? ⟨gb351, 1, none⟩ = some (.slice Ao14 t344.length co14) := (blk_cell BK351.out 1).trans rfl; have hcz36_2 : wr.cell? ⟨gb351, 2, none⟩ = some (.slice Ao15 t347.length co15) := (blk_cell BK351.out 2).trans rfl; have hfz36_0 := blk_frozen BK351.out 0; have hfz36_1 := blk_frozen BK351.out 1; have hfz36_2 := blk_frozen BK351.out 2; have p358 : 0 ≤ (x14_3 : Int) := of_decide_eq_true (by first | (with_reducible assumption) | assumption); have q358 : x14_3 < (t341.length : Int) := of_decide_eq_true (by first | (with_reducible assumption) | assumption); obtain ⟨ad358, A358_0, c358_0, e358, hx358_0, hl358_0, hi358_0⟩ := at_L1 (Kd.R_reads' HO_352000.out).2.2 x14_3 p358 q358; cases e358; obtain ⟨ce358, hce358, hMe358, hcc358⟩ := Kd.R_get HO_352000.out [] x14_3 p358 (by first | exact q358 | exact of_decide_eq_true (by first | (with_reducible assumption) | assumption) | (have e_ := (Kd.R_reads' HO_352000.out).1; omega)); obtain ⟨ve358_0, rfl, ge358_0⟩ := hMe358; have hv358_0 := hcc358 0 _ rfl; rw [Nat.add_zero, show ((Kd.slice 37 (Kd.int .u32))).sz = 1 from rfl, Nat.mul_one] at hv358_0; replace hv358_0 := Option.some.inj (hv358_0.symm.trans hx358_0); rw [hv358_0] at ge358_0; have HL358_0 := Aside0.mk (show Kd.R (Kd.int .u32) 37 _ _ _ _ (rd_L1 t341 x14_3) from ge358_0); clear hv358_0 ge358_0; clear hcc358 hce358; have HR358_0 := Aside0.mk hi358_0; have HC358_0 := Aside0.mk hl358_0; clear hi358_0 hl358_0; replace p358 := eq_true p358; replace q358 := eq_true q358; have p359 : 0 ≤ (x11_2 : Int) := of_decide_eq_true (by first | (with_reducible assumption) | assumption); have q359 : x11_2 < ((rd_L1 t341 x14_3).length : Int) := of_decide_eq_true (by first | (with_reducible assumption) | assumption); obtain ⟨ad359, e359, hx359_0⟩ := Kd.at_int (by repeat (first | (with_reducible exact HR358_0.out) | (with_reducible refine Kd.C_alloc ?_ _) | (with_reducible refine Kd.C_drewN ?_ _) | (with_reducible refine Kd.C_drew ?_) | exact HR358_0.out)) x11_2 p359 q359; cases e359; replace p359 := eq_true p359; replace q359 := eq_true q359; have p360 : 0 ≤ (x14_3 : Int) := of_decide_eq_true (by first | (with_reducible assumption) | assumption); have q360 : x14_3 < (t344.length : Int) := of_decide_eq_true (by first | (with_reducible assumption) | assumption); obtain ⟨ad360, A360_0, c360_0, e360, hx360_0, hl360_0, hi360_0⟩ := at_L1 (Kd.R_reads' HO_352001.out).2.2 x14_3 p360 q360; cases e360; obtain ⟨ce360, hce360, hMe360, hcc360⟩ := Kd.R_get HO_352001.out [] x14_3 p360 (by first | exact q360 | exact of_decide_eq_true (by first | (with_reducible assumption) | assumption) | (have e_ := (Kd.R_reads' HO_352001.out).1; omega)); obtain ⟨ve360_0, rfl, ge360_0⟩ := hMe360; have hv360_0 := hcc360 0 _ rfl; rw [Nat.add_zero, show ((Kd.slice 37 (Kd.int .u32))).sz = 1 from rfl, Nat.mul_one] at hv360_0; replace hv360_0 := Option.some.inj (hv360_0.symm.trans hx360_0); rw [hv360_0] at ge360_0; have HL360_0 := Aside0.mk (show Kd.R (Kd.int .u32) 37 _ _ _ _ (rd_L1 t344 x14_3) from ge360_0); clear hv360_0 ge360_0; clear hcc360 hce360; have HR360_0 := Aside0.mk hi360_0; have HC360_0 := Aside0.mk hl360_0; clear hi360_0 hl360_0; replace p360 := eq_true p360; replace q360 := eq_true q360; have p361 : 0 ≤ (x11_2 : Int) := of_decide_eq_true (by first | (with_reducible assumption) | assumption); have q361 : x11_2 < ((rd_L1 t344 x14_3).length : Int) := of_decide_eq_true (by first | (with_reducible assumption) | assumption); obtain ⟨ad361, e361, hx361_0⟩ := Kd.at_int (by repeat (first | (with_reducible exact HR360_0.out) | (with_reducible refine Kd.C_alloc ?_ _) | (with_reducible refine Kd.C_drewN ?_ _) | (with_reducible refine Kd.C_drew ?_) | exact HR360_0.out)) x11_2 p361 q361; cases e361; replace p361 := eq_true p361; replace q361 := eq_true q361)); try go_wp2_with (first | (go_at_call 14; (with_reducible refine (offertorylaw25_in.calls a3 x14_3 true _ A26.out).mono ?_); rintro e w' ⟨rfl, ⟨nd, rfl⟩⟩; (try first | exact ⟨rfl, _, World.drewN_drewN _ _ _⟩ | exact ⟨rfl, _, Eq.trans (World.drewN_drewN _ _ _) (congrArg (World.drewN _) (Nat.add_assoc _ _ _))⟩); have p356 : 0 ≤ (x14_3 : Int) := of_decide_eq_true (by first | (with_reducible assumption) | assumption); have q356 : x14_3 < (l0.length : Int) := of_decide_eq_true (by first | (with_reducible assumption) | assumption); obtain ⟨ad356, A356_0, c356_0, e356, hx356_0, hl356_0, hi356_0⟩ := at_L1 HR0.out x14_3 p356 q356; obtain rfl : ad354 = ad356 := (by injection e356); replace hx356_0 := (HB.out.cell (World.block_lt_of_cell? w _ hx356_0)).trans hx356_0; have HR356_0 := Aside0.mk hi356_0; have HC356_0 := Aside0.mk hl356_0; clear hi356_0 hl356_0; replace p356 := eq_true p356; replace q356 := eq_true q356; have p357 : 0 ≤ (x11_2 : Int) := of_decide_eq_true (by first | (with_reducible assumption) | assumption); have q357 : x11_2 < ((rd_L1 l0 x14_3).length : Int) := of_decide_eq_true (by first | (with_reducible assumption) | assumption); obtain ⟨ad357, e357, hx357_0⟩ := Kd.at_int HR356_0.out x11_2 p357 q357; cases e357; replace hx357_0 := (HB.out.cell (World.block_lt_of_cell? w _ hx357_0)).trans hx357_0; replace p357 := eq_true p357; replace q357 := eq_true q357; have hnb35 := NB351_340.out; have hnc35 := NB340_351.out; have hcz36_0 : wr.cell? ⟨gb351, 0, none⟩ = some (.slice Ao11 t341.length co11) := (blk_cell BK351.out 0).trans rfl; have hcz36_1 : wr.cell? ⟨gb351, 1, none⟩ = some (.slice Ao14 t344.length co14) := (blk_cell BK351.out 1).trans rfl; have hcz36_2 : wr.cell? ⟨gb351, 2, none⟩ = some (.slice Ao15 t347.length co15) := (blk_cell BK351.out 2).trans rfl; have hfz36_0 := blk_frozen BK351.out 0; have hfz36_1 := blk_frozen BK351.out 1; have hfz36_2 := blk_frozen BK351.out 2; have p358 : 0 ≤ (x14_3 : Int) := of_decide_eq_true (by first | (with_reducible assumption) | assumption); have q358 : x14_3 < (t341.length : Int) := of_decide_eq_true (by first | (with_reducible assumption) | assumption); obtain ⟨ad358, A358_0, c358_0, e358, hx358_0, hl358_0, hi358_0⟩ := at_L1 (Kd.R_reads' HO_352000.out).2.2 x14_3 p358 q358; cases e358; obtain ⟨ce358, hce358, hMe358, hcc358⟩ := Kd.R_get HO_352000.out [] x14_3 p358 (by first | exact q358 | exact of_decide_eq_true (by first | (with_reducible assumption) | assumption) | (have e_ := (Kd.R_reads' HO_352000.out).1; omega)); obtain ⟨ve358_0, rfl, ge358_0⟩ := hMe358; have hv358_0 := hcc358 0 _ rfl; rw [Nat.add_zero, show ((Kd.slice 37 (Kd.int .u32))).sz = 1 from rfl, Nat.mul_one] at hv358_0; replace hv358_0 := Option.some.inj (hv358_0.symm.trans hx358_0); rw [hv358_0] at ge358_0; have HL358_0 := Aside0.mk (show Kd.R (Kd.int .u32) 37 _ _ _ _ (rd_L1 t341 x14_3) from ge358_0); clear hv358_0 ge358_0; clear hcc358 hce358; have HR358_0 := Aside0.mk hi358_0; have HC358_0 := Aside0.mk hl358_0; clear hi358_0 hl358_0; replace p358 := eq_true p358; replace q358 := eq_true q358; have p359 : 0 ≤ (x11_2 : Int) := of_decide_eq_true (by first | (with_reducible assumption) | assumption); have q359 : x11_2 < ((rd_L1 t341 x14_3).length : Int) := of_decide_eq_true (by first | (with_reducible assumption) | assumption); obtain ⟨ad359, e359, hx359_0⟩ := Kd.at_int (by repeat (first | (with_reducible exact HR358_0.out) | (with_reducible refine Kd.C_alloc ?_ _) | (with_reducible refine Kd.C_drewN ?_ _) | (with_reducible refine Kd.C_drew ?_) | exact HR358_0.out)) x11_2 p359 q359; cases e359; replace p359 := eq_true p359; replace q359 := eq_true q359; have p360 : 0 ≤ (x14_3 : Int) := of_decide_eq_true (by first | (with_reducible assumption) | assumption); have q360 : x14_3 < (t344.length : Int) := of_decide_eq_true (by first | (with_reducible assumption) | assumption); obtain ⟨ad360, A360_0, c360_0, e360, hx360_0, hl360_0, hi360_0⟩ := at_L1 (Kd.R_reads' HO_352001.out).2.2 x14_3 p360 q360; cases e360; obtain ⟨ce360, hce360, hMe360, hcc360⟩ := Kd.R_get HO_352001.out [] x14_3 p360 (by first | exact q360 | exact of_decide_eq_true (by first | (with_reducible assumption) | assumption) | (have e_ := (Kd.R_reads' HO_352001.out).1; omega)); obtain ⟨ve360_0, rfl, ge360_0⟩ := hMe360; have hv360_0 := hcc360 0 _ rfl; rw [Nat.add_zero, show ((Kd.slice 37 (Kd.int .u32))).sz = 1 from rfl, Nat.mul_one] at hv360_0; replace hv360_0 := Option.some.inj (hv360_0.symm.trans hx360_0); rw [hv360_0] at ge360_0; have HL360_0 := Aside0.mk (show Kd.R (Kd.int .u32) 37 _ _ _ _ (rd_L1 t344 x14_3) from ge360_0); clear hv360_0 ge360_0; clear hcc360 hce360; have HR360_0 := Aside0.mk hi360_0; have HC360_0 := Aside0.mk hl360_0; clear hi360_0 hl360_0; replace p360 := eq_true p360; replace q360 := eq_true q360; have p361 : 0 ≤ (x11_2 : Int) := of_decide_eq_true (by first | (with_reducible assumption) | assumption); have q361 : x11_2 < ((rd_L1 t344 x14_3).length : Int) := of_decide_eq_true (by first | (with_reducible assumption) | assumption); obtain ⟨ad361, e361, hx361_0⟩ := Kd.at_int (by repeat (first | (with_reducible exact HR360_0.out) | (with_reducible refine Kd.C_alloc ?_ _) | (with_reducible refine Kd.C_drewN ?_ _) | (with_reducible refine Kd.C_drew ?_) | exact HR360_0.out)) x11_2 p361 q361; cases e361; replace p361 := eq_true p361; replace q361 := eq_true q361)))
                   have em_ : (x12_3 + (rd (rd_L1 t341 x14_3) x11_2 - rd (rd_L1 t344 x14_3) x11_2) % 4294967296) % 4294967296 = (x12_3 + (rd (rd_L1 t341 x14_3) x11_2 - rd (rd_L1 t344 x14_3) x11_2)) % 4294967296 := by omega
                   rw [em_]
                   clear em_
                   go_loopg [12, 15] k3 (fun kq v12 v15 w' => ∃ (x12_4 : Int) (x15_4 : Int), v12 = .int .u32 x12_4 ∧ v15 = .int .i64 x15_4 ∧ Aside0 (offertorylaw25_IdealSum.l2 kq l0 a3 x11_2 x12_4 ((x13_3 + (rd (rd_L1 l0 x14_3) x11_2)) % 4294967296) x14_3 x15_4 t341 t344 t347 = some r) ∧ Aside0 (kq ≤ k3) ∧ Aside0 (Kd.R (Kd.slice 37 (Kd.int .u32)) 35 w' w.heap.size (fun k_ => some k_ ≠ ((.slice (some ad360) t344.length co14) : Value).ownBlock) (.slice (some ad358) t341.length co11) t341) ∧ Aside0 (Kd.R (Kd.slice 37 (Kd.int .u32)) 35 w' w.heap.size (fun k_ => some k_ ≠ ((.slice (some ad358) t341.length co11) : Value).ownBlock) (.slice (some ad360) t344.length co14) t344) ∧ Aside0 (Kd.R (Kd.slice 35 (Kd.slice 37 (Kd.int .u32))) 22 w' w.heap.size (fun k_ => some k_ ≠ ((.slice (some ad358) t341.length co11) : Value).ownBlock ∧ some k_ ≠ ((.slice (some ad360) t344.length co14) : Value).ownBlock) (.slice Ao15 t347.length co15) t347) ∧ Aside0 (w'.heap[gb340]? = some (.cells #[(.slice A1_0 l1_0.length c1_0), (.slice A1_1 l1_1.length c1_1)] 25 (0, 0))) ∧ Aside0 (w'.heap[gb351]? = some (.cells #[(.slice (some ad358) t341.length co11), (.slice (some ad360) t344.length co14), (.slice Ao15 t347.length co15)] 30 (0, 0))) ∧ Aside0 (Kd.C (Kd.int .u32) w' (some ad359) (rd_L1 t341 x14_3).length (rd_L1 t341 x14_3)) ∧ Aside0 (Kd.C (Kd.int .u32) w' (some ad361) (rd_L1 t344 x14_3).length (rd_L1 t344 x14_3)) ∧ Aside0 (Below w.heap.size w w'))
                   case atStart => exact ⟨((x12_3 + (((rd (rd_L1 t341 x14_3) x11_2) - (rd (rd_L1 t344 x14_3) x11_2)) % 4294967296)) % 4294967296), (0), (by first | rfl | (simp; done) | (simp [*]; done)), (by first | rfl | (simp; done) | (simp [*]; done)), H', ⟨Nat.le_refl _⟩, ⟨by (with_reducible repeat (first | apply Kd.R_alloc | apply Kd.R_drewN | apply Kd.R_drew)); exact HO_352000.out⟩, ⟨by (with_reducible repeat (first | apply Kd.R_alloc | apply Kd.R_drewN | apply Kd.R_drew)); exact HO_352001.out⟩, ⟨by (with_reducible repeat (first | apply Kd.R_alloc | apply Kd.R_drewN | apply Kd.R_drew)); exact HO_352002.out⟩, ⟨by (with_reducible repeat (first | refine blk_drewN ?_ _ | refine blk_drew ?_ | refine blk_alloc ?_ _)); exact BK340.out⟩, ⟨by (with_reducible repeat (first | refine blk_drewN ?_ _ | refine blk_drew ?_ | refine blk_alloc ?_ _)); exact BK351.out⟩, ⟨by repeat (first | (with_reducible exact HR358_0.out) | (with_reducible refine Kd.C_alloc ?_ _) | (with_reducible refine Kd.C_drewN ?_ _) | (with_reducible refine Kd.C_drew ?_) | exact HR358_0.out)⟩, ⟨by repeat (first | (with_reducible exact HR360_0.out) | (with_reducible refine Kd.C_alloc ?_ _) | (with_reducible refine Kd.C_drewN ?_ _) | (with_reducible refine Kd.C_drew ?_) | exact HR360_0.out)⟩, ⟨by repeat (first | (with_reducible first | exact HB.out | apply below_alloc | apply pw_below_drewN | apply below_drew1 | refine below_set ?_ GE340.out | refine below_set ?_ GE351.out) | exact HB.out)⟩⟩
                   case round =>
                    clear H'
                    try clear c1
                    try clear c2
                    try clear p2
                    try clear c3
                    try clear p3
                    try clear q3
                    try clear hx3
                    try clear qi3
                    try clear p6
                    try clear c7
                    try clear c12
                    try clear c17
                    try clear c20
                    try clear c23
                    try clear c23b0
                    try clear c23b1
                    try clear c24
                    try clear c24b0
                    try clear c25
                    try clear c25b0
                    try clear c27
                    try clear c28
                    try clear c28b0
                    try clear c29
                    try clear c29b0
                    try clear c30
                    try clear c30b0
                    try clear c31
                    try clear c31b0
                    try clear c32
                    try clear c32b0
                    try clear c33
                    try clear c33b0
                    try clear c34
                    try clear c34b0
                    try clear c35
                    try clear p35
                    try clear q35
                    try clear hx35
                    try clear qi35
                    try clear c36
                    try clear p36
                    try clear q36
                    try clear hx36
                    try clear hcz13_0
                    try clear hcz13_1
                    try clear hcz13_2
                    try clear hcz36_0
                    try clear hcz36_1
                    try clear hcz36_2
                    try clear hcz8_0
                    try clear hcz8_1
                    try clear hfz13_0
                    try clear hfz13_1
                    try clear hfz13_2
                    try clear hfz36_0
                    try clear hfz36_1
                    try clear hfz36_2
                    try clear hfz8_0
                    try clear hfz8_1
                    try clear hx354_0
                    try clear hx356_0
                    try clear hx357_0
                    try clear hx358_0
                    try clear hx359_0
                    try clear hx360_0
                    try clear hx361_0
                    try clear p2
                    try clear p3
                    try clear p354
                    try clear p356
                    try clear p357
                    try clear p358
                    try clear p359
                    try clear p360
                    try clear p361
                    try clear q3
                    try clear q354
                    try clear q356
                    try clear q357
                    try clear q358
                    try clear q359
                    try clear q360
                    try clear q361
                    obtain ⟨x12_4, x15_4, rfl, rfl, HA, HK4, HO_352000, HO_352001, HO_352002, BK340, BK351, HR358_0, HR360_0, HB⟩ := hrel
                    cases gk with
                    | zero => exact absurd HA.out (by simp [offertorylaw25_IdealSum.l2])
                    | succ k4 =>
                     have H := HA.out
                     clear HA
                     simp only [offertorylaw25_IdealSum.l2] at H
                     by_cases c37 : x15_4 < (l0.length : Int)
                     ·
                      rw [if_pos c37] at H
                      have c37b0 : decide (x15_4 < (l0.length : Int)) = true := decide_eq_true c37
                      clear c37
                      have HC38 := Aside0.mk H
                      clear H
                      go_upto_region 17 with (fail)
                      repeat (go_quiet (fail); go_upto_region 17 with (fail))
                      go_cut [97] (fun v97 wc => ∃ (kq : Nat) (x97_37 : Bool), v97 = .bool x97_37 ∧ Aside0 (offertorylaw25_IdealSum.j4 kq l0 a3 x11_2 x12_4 ((x13_3 + (rd (rd_L1 l0 x14_3) x11_2)) % 4294967296) x14_3 x15_4 x97_37 t341 t344 t347 = some r) ∧ Aside0 (kq ≤ k4) ∧ Aside0 (Kd.R (Kd.slice 37 (Kd.int .u32)) 35 wc w.heap.size (fun k_ => some k_ ≠ ((.slice (some ad360) t344.length co14) : Value).ownBlock) (.slice (some ad358) t341.length co11) t341) ∧ Aside0 (Kd.R (Kd.slice 37 (Kd.int .u32)) 35 wc w.heap.size (fun k_ => some k_ ≠ ((.slice (some ad358) t341.length co11) : Value).ownBlock) (.slice (some ad360) t344.length co14) t344) ∧ Aside0 (Kd.R (Kd.slice 35 (Kd.slice 37 (Kd.int .u32))) 22 wc w.heap.size (fun k_ => some k_ ≠ ((.slice (some ad358) t341.length co11) : Value).ownBlock ∧ some k_ ≠ ((.slice (some ad360) t344.length co14) : Value).ownBlock) (.slice Ao15 t347.length co15) t347) ∧ Aside0 (wc.heap[gb340]? = some (.cells #[(.slice A1_0 l1_0.length c1_0), (.slice A1_1 l1_1.length c1_1)] 25 (0, 0))) ∧ Aside0 (wc.heap[gb351]? = some (.cells #[(.slice (some ad358) t341.length co11), (.slice (some ad360) t344.length co14), (.slice Ao15 t347.length co15)] 30 (0, 0))) ∧ Aside0 (Kd.C (Kd.int .u32) wc (some ad359) (rd_L1 t341 x14_3).length (rd_L1 t341 x14_3)) ∧ Aside0 (Kd.C (Kd.int .u32) wc (some ad361) (rd_L1 t344 x14_3).length (rd_L1 t344 x14_3)) ∧ Aside0 (Below w.heap.size w wc))
                      case first =>
                       have H := HC38.out
                       clear HC38
                       by_cases c39 : x15_4 > x14_3
                       ·
                        rw [if_pos c39] at H
                        have c39b0 : decide (x14_3 < x15_4) = true := decide_eq_true c39
                        clear c39
                        (first | rw [c39b0] | (simp only [i64_w, i32_w]; rw [c39b0]) | skip)
                        by_cases c40 : 0 ≤ x14_3
                        ·
                         rw [if_pos c40] at H
                         have c40b0 : decide (0 ≤ x14_3) = true := decide_eq_true c40
                         clear c40
                         by_cases c41 : x14_3 < (t347.length : Int)
                         ·
                          rw [if_pos c41] at H
                          have c41b0 : decide (x14_3 < (t347.length : Int)) = true := decide_eq_true c41
                          clear c41
                          by_cases c42 : 0 ≤ x15_4
                          ·
                           rw [if_pos c42] at H
                           have c42b0 : decide (0 ≤ x15_4) = true := decide_eq_true c42
                           clear c42
                           by_cases c43 : x15_4 < ((rd_L2 t347 x14_3).length : Int)
                           ·
                            rw [if_pos c43] at H
                            have c43b0 : decide (x15_4 < ((rd_L2 t347 x14_3).length : Int)) = true := decide_eq_true c43
                            clear c43
                            have H' := Aside0.mk H
                            clear H
                            have hnb44 := NB351_340.out
                            have hnc44 := NB340_351.out
                            have hcz45_0 : wr.cell? ⟨gb351, 0, none⟩ = some (.slice (some ad358) t341.length co11) := (blk_cell BK351.out 0).trans rfl
                            have hcz45_1 : wr.cell? ⟨gb351, 1, none⟩ = some (.slice (some ad360) t344.length co14) := (blk_cell BK351.out 1).trans rfl
                            have hcz45_2 : wr.cell? ⟨gb351, 2, none⟩ = some (.slice Ao15 t347.length co15) := (blk_cell BK351.out 2).trans rfl
                            have hfz45_0 := blk_frozen BK351.out 0
                            have hfz45_1 := blk_frozen BK351.out 1
                            have hfz45_2 := blk_frozen BK351.out 2
                            have p362 : 0 ≤ (x14_3 : Int) := of_decide_eq_true (by first | (with_reducible assumption) | assumption)
                            have q362 : x14_3 < (t347.length : Int) := of_decide_eq_true (by first | (with_reducible assumption) | assumption)
                            obtain ⟨ad362, A362_0, c362_0, e362, hx362_0, hl362_0, hi362_0⟩ := at_L2 (Kd.R_reads' HO_352002.out).2.2 x14_3 p362 q362
                            cases e362
                            obtain ⟨ce362, hce362, hMe362, hcc362⟩ := Kd.R_get HO_352002.out [] x14_3 p362 (by first | exact q362 | exact of_decide_eq_true (by first | (with_reducible assumption) | assumption) | (have e_ := (Kd.R_reads' HO_352002.out).1; omega))
                            obtain ⟨ve362_0, rfl, ge362_0⟩ := hMe362
                            have hv362_0 := hcc362 0 _ rfl
                            rw [Nat.add_zero, show ((Kd.slice 35 (Kd.slice 37 (Kd.int .u32)))).sz = 1 from rfl, Nat.mul_one] at hv362_0
                            replace hv362_0 := Option.some.inj (hv362_0.symm.trans hx362_0)
                            rw [hv362_0] at ge362_0
                            have HL362_0 := Aside0.mk (show Kd.R (Kd.slice 37 (Kd.int .u32)) 35 _ _ _ _ (rd_L2 t347 x14_3) from ge362_0)
                            clear hv362_0 ge362_0
                            clear hcc362 hce362
                            have HR362_0 := Aside0.mk hi362_0
                            have HC362_0 := Aside0.mk hl362_0
                            clear hi362_0 hl362_0
                            replace p362 := eq_true p362
                            replace q362 := eq_true q362
                            have p363 : 0 ≤ (x15_4 : Int) := of_decide_eq_true (by first | (with_reducible assumption) | assumption)
                            have q363 : x15_4 < ((rd_L2 t347 x14_3).length : Int) := of_decide_eq_true (by first | (with_reducible assumption) | assumption)
                            obtain ⟨ad363, A363_0, c363_0, e363, hx363_0, hl363_0, hi363_0⟩ := at_L1 (by repeat (first | (with_reducible exact HR362_0.out) | (with_reducible refine Kd.C_alloc ?_ _) | (with_reducible refine Kd.C_drewN ?_ _) | (with_reducible refine Kd.C_drew ?_) | exact HR362_0.out)) x15_4 p363 q363
                            cases e363
                            obtain ⟨ce363, hce363, hMe363, hcc363⟩ := Kd.R_get HL362_0.out [] x15_4 p363 (by first | exact q363 | exact of_decide_eq_true (by first | (with_reducible assumption) | assumption) | (have e_ := (Kd.R_reads' HL362_0.out).1; omega))
                            obtain ⟨ve363_0, rfl, ge363_0⟩ := hMe363
                            have hv363_0 := hcc363 0 _ rfl
                            rw [Nat.add_zero, show ((Kd.slice 37 (Kd.int .u32))).sz = 1 from rfl, Nat.mul_one] at hv363_0
                            replace hv363_0 := Option.some.inj (hv363_0.symm.trans hx363_0)
                            rw [hv363_0] at ge363_0
                            have HL363_0 := Aside0.mk (show Kd.R (Kd.int .u32) 37 _ _ _ _ (rd_L1 (rd_L2 t347 x14_3) x15_4) from ge363_0)
                            clear hv363_0 ge363_0
                            clear hcc363 hce363
                            have HR363_0 := Aside0.mk hi363_0
                            have HC363_0 := Aside0.mk hl363_0
                            clear hi363_0 hl363_0
                            replace p363 := eq_true p363
                            replace q363 := eq_true q363
                            go_wp2
                            repeat (go_quiet (fail); try go_wp2)
                            go_meet
                            case rel => exact ⟨_, (decide (((rd_L1 (rd_L2 t347 x14_3) x15_4).length : Int) > 0)), (by first | rfl | (simp; done) | (simp [*]; done)), H', ⟨by have := HJ5.out; have := HK2.out; have := HK3.out; have := HK4.out; first | omega | exact Nat.le_refl _⟩, ⟨by (with_reducible repeat (first | apply Kd.R_alloc | apply Kd.R_drewN | apply Kd.R_drew)); exact HO_352000.out⟩, ⟨by (with_reducible repeat (first | apply Kd.R_alloc | apply Kd.R_drewN | apply Kd.R_drew)); exact HO_352001.out⟩, ⟨by (with_reducible repeat (first | apply Kd.R_alloc | apply Kd.R_drewN | apply Kd.R_drew)); exact HO_352002.out⟩, ⟨by (with_reducible repeat (first | refine blk_drewN ?_ _ | refine blk_drew ?_ | refine blk_alloc ?_ _)); exact BK340.out⟩, ⟨by (with_reducible repeat (first | refine blk_drewN ?_ _ | refine blk_drew ?_ | refine blk_alloc ?_ _)); exact BK351.out⟩, ⟨by repeat (first | (with_reducible exact HR358_0.out) | (with_reducible refine Kd.C_alloc ?_ _) | (with_reducible refine Kd.C_drewN ?_ _) | (with_reducible refine Kd.C_drew ?_) | exact HR358_0.out)⟩, ⟨by repeat (first | (with_reducible exact HR360_0.out) | (with_reducible refine Kd.C_alloc ?_ _) | (with_reducible refine Kd.C_drewN ?_ _) | (with_reducible refine Kd.C_drew ?_) | exact HR360_0.out)⟩, ⟨by repeat (first | (with_reducible first | exact HB.out | apply below_alloc | apply pw_below_drewN | apply below_drew1 | refine below_set ?_ GE340.out | refine below_set ?_ GE351.out) | exact HB.out)⟩⟩
                           ·
                            rw [if_neg c43] at H
                            exact absurd H (by simp)
                          ·
                           rw [if_neg c42] at H
                           exact absurd H (by simp)
                         ·
                          rw [if_neg c41] at H
                          exact absurd H (by simp)
                        ·
                         rw [if_neg c40] at H
                         exact absurd H (by simp)
                       ·
                        rw [if_neg c39] at H
                        have c39b0 : decide (x14_3 < x15_4) = false := decide_eq_false c39
                        clear c39
                        (first | rw [c39b0] | (simp only [i64_w, i32_w]; rw [c39b0]) | skip)
                        have H' := Aside0.mk H
                        clear H
                        go_wp2
                        repeat (go_quiet (fail); try go_wp2)
                        go_meet
                        case rel => exact ⟨_, (false), (by first | rfl | (simp; done) | (simp [*]; done)), H', ⟨by have := HJ5.out; have := HK2.out; have := HK3.out; have := HK4.out; first | omega | exact Nat.le_refl _⟩, ⟨by (with_reducible repeat (first | apply Kd.R_alloc | apply Kd.R_drewN | apply Kd.R_drew)); exact HO_352000.out⟩, ⟨by (with_reducible repeat (first | apply Kd.R_alloc | apply Kd.R_drewN | apply Kd.R_drew)); exact HO_352001.out⟩, ⟨by (with_reducible repeat (first | apply Kd.R_alloc | apply Kd.R_drewN | apply Kd.R_drew)); exact HO_352002.out⟩, ⟨by (with_reducible repeat (first | refine blk_drewN ?_ _ | refine blk_drew ?_ | refine blk_alloc ?_ _)); exact BK340.out⟩, ⟨by (with_reducible repeat (first | refine blk_drewN ?_ _ | refine blk_drew ?_ | refine blk_alloc ?_ _)); exact BK351.out⟩, ⟨by repeat (first | (with_reducible exact HR358_0.out) | (with_reducible refine Kd.C_alloc ?_ _) | (with_reducible refine Kd.C_drewN ?_ _) | (with_reducible refine Kd.C_drew ?_) | exact HR358_0.out)⟩, ⟨by repeat (first | (with_reducible exact HR360_0.out) | (with_reducible refine Kd.C_alloc ?_ _) | (with_reducible refine Kd.C_drewN ?_ _) | (with_reducible refine Kd.C_drew ?_) | exact HR360_0.out)⟩, ⟨by repeat (first | (with_reducible first | exact HB.out | apply below_alloc | apply pw_below_drewN | apply below_drew1 | refine below_set ?_ GE340.out | refine below_set ?_ GE351.out) | exact HB.out)⟩⟩
                      case rest =>
                       clear HC38
                       try clear c1
                       try clear c2
                       try clear p2
                       try clear c3
                       try clear p3
                       try clear q3
                       try clear hx3
                       try clear qi3
                       try clear c4
                       try clear p6
                       try clear c7
                       try clear c12
                       try clear c17
                       try clear c20
                       try clear c23
                       try clear c23b0
                       try clear c23b1
                       try clear c24
                       try clear c24b0
                       try clear c25
                       try clear c25b0
                       try clear c27
                       try clear c28
                       try clear c28b0
                       try clear c29
                       try clear c29b0
                       try clear c30
                       try clear c30b0
                       try clear c31
                       try clear c31b0
                       try clear c32
                       try clear c32b0
                       try clear c33
                       try clear c33b0
                       try clear c34
                       try clear c34b0
                       try clear c35
                       try clear p35
                       try clear q35
                       try clear hx35
                       try clear qi35
                       try clear c36
                       try clear p36
                       try clear q36
                       try clear hx36
                       try clear c37
                       try clear c37b0
                       try clear c39
                       try clear c39b0
                       try clear c40
                       try clear c40b0
                       try clear c41
                       try clear c41b0
                       try clear c42
                       try clear c42b0
                       try clear c43
                       try clear c43b0
                       try clear c44
                       try clear hcz13_0
                       try clear hcz13_1
                       try clear hcz13_2
                       try clear hcz36_0
                       try clear hcz36_1
                       try clear hcz36_2
                       try clear hcz45_0
                       try clear hcz45_1
                       try clear hcz45_2
                       try clear hcz8_0
                       try clear hcz8_1
                       try clear hfz13_0
                       try clear hfz13_1
                       try clear hfz13_2
                       try clear hfz36_0
                       try clear hfz36_1
                       try clear hfz36_2
                       try clear hfz45_0
                       try clear hfz45_1
                       try clear hfz45_2
                       try clear hfz8_0
                       try clear hfz8_1
                       try clear hx354_0
                       try clear hx356_0
                       try clear hx357_0
                       try clear hx358_0
                       try clear hx359_0
                       try clear hx360_0
                       try clear hx361_0
                       try clear hx362_0
                       try clear hx363_0
                       try clear p2
                       try clear p3
                       try clear p35
                       try clear p354
                       try clear p356
                       try clear p357
                       try clear p358
                       try clear p359
                       try clear p36
                       try clear p360
                       try clear p361
                       try clear p362
                       try clear p363
                       try clear p6
                       try clear q3
                       try clear q35
                       try clear q354
                       try clear q356
                       try clear q357
                       try clear q358
                       try clear q359
                       try clear q36
                       try clear q360
                       try clear q361
                       try clear q362
                       try clear q363
                       obtain ⟨kq, x97_37, rfl, HA, HJ37, HO_352000, HO_352001, HO_352002, BK340, BK351, HR358_0, HR360_0, HB⟩ := hcut
                       cases kq with
                       | zero => exact absurd HA.out (by simp [offertorylaw25_IdealSum.j4])
                       | succ kj37 =>
                        have H := HA.out
                        clear HA
                        simp only [offertorylaw25_IdealSum.j4] at H
                        by_cases c46 : x97_37 = true
                        ·
                         subst c46
                         have H1 : (if 0 ≤ x14_3 then (if x14_3 < (t347.length : Int) then (if 0 ≤ x15_4 then (if x15_4 < ((rd_L2 t347 x14_3).length : Int) then (if 0 ≤ x11_2 then (if x11_2 < ((rd_L1 (rd_L2 t347 x14_3) x15_4).length : Int) then (if x15_4 < x14_3 then (if x15_4 < (t347.length : Int) then (if x14_3 < ((rd_L2 t347 x15_4).length : Int) then (if ((rd_L1 (rd_L2 t347 x15_4) x14_3).length : Int) > 0 then (if x11_2 < ((rd_L1 (rd_L2 t347 x15_4) x14_3).length : Int) then (offertorylaw25_IdealSum.l2 kj37 l0 a3 x11_2 ((((x12_4 - (rd (rd_L1 (rd_L2 t347 x14_3) x15_4) x11_2)) % 4294967296) + (rd (rd_L1 (rd_L2 t347 x15_4) x14_3) x11_2)) % 4294967296) ((x13_3 + (rd (rd_L1 l0 x14_3) x11_2)) % 4294967296) x14_3 (wrap64 (x15_4 + 1)) t341 t344 t347) else (none)) else (offertorylaw25_IdealSum.l2 kj37 l0 a3 x11_2 ((x12_4 - (rd (rd_L1 (rd_L2 t347 x14_3) x15_4) x11_2)) % 4294967296) ((x13_3 + (rd (rd_L1 l0 x14_3) x11_2)) % 4294967296) x14_3 (wrap64 (x15_4 + 1)) t341 t344 t347)) else (none)) else (none)) else (offertorylaw25_IdealSum.l2 kj37 l0 a3 x11_2 ((x12_4 - (rd (rd_L1 (rd_L2 t347 x14_3) x15_4) x11_2)) % 4294967296) ((x13_3 + (rd (rd_L1 l0 x14_3) x11_2)) % 4294967296) x14_3 (wrap64 (x15_4 + 1)) t341 t344 t347)) else (none)) else (none)) else (none)) else (none)) else (none)) else (none)) = some r := by rw [if_pos rfl] at H; exact H
                         clear H
                         have H := H1
                         clear H1
                         by_cases c47 : 0 ≤ x14_3
                         ·
                          rw [if_pos c47] at H
                          have c47b0 : decide (0 ≤ x14_3) = true := decide_eq_true c47
                          clear c47
                          by_cases c48 : x14_3 < (t347.length : Int)
                          ·
                           rw [if_pos c48] at H
                           have c48b0 : decide (x14_3 < (t347.length : Int)) = true := decide_eq_true c48
                           clear c48
                           by_cases c49 : 0 ≤ x15_4
                           ·
                            rw [if_pos c49] at H
                            have c49b0 : decide (0 ≤ x15_4) = true := decide_eq_true c49
                            clear c49
                            by_cases c50 : x15_4 < ((rd_L2 t347 x14_3).length : Int)
                            ·
                             rw [if_pos c50] at H
                             have c50b0 : decide (x15_4 < ((rd_L2 t347 x14_3).length : Int)) = true := decide_eq_true c50
                             clear c50
                             by_cases c51 : 0 ≤ x11_2
                             ·
                              rw [if_pos c51] at H
                              have c51b0 : decide (0 ≤ x11_2) = true := decide_eq_true c51
                              clear c51
                              by_cases c52 : x11_2 < ((rd_L1 (rd_L2 t347 x14_3) x15_4).length : Int)
                              ·
                               rw [if_pos c52] at H
                               have c52b0 : decide (x11_2 < ((rd_L1 (rd_L2 t347 x14_3) x15_4).length : Int)) = true := decide_eq_true c52
                               clear c52
                               by_cases c53 : x15_4 < x14_3
                               ·
                                rw [if_pos c53] at H
                                have c53b0 : decide (x15_4 < x14_3) = true := decide_eq_true c53
                                clear c53
                                by_cases c54 : x15_4 < (t347.length : Int)
                                ·
                                 rw [if_pos c54] at H
                                 have c54b0 : decide (x15_4 < (t347.length : Int)) = true := decide_eq_true c54
                                 clear c54
                                 by_cases c55 : x14_3 < ((rd_L2 t347 x15_4).length : Int)
                                 ·
                                  rw [if_pos c55] at H
                                  have c55b0 : decide (x14_3 < ((rd_L2 t347 x15_4).length : Int)) = true := decide_eq_true c55
                                  clear c55
                                  by_cases c56 : ((rd_L1 (rd_L2 t347 x15_4) x14_3).length : Int) > 0
                                  ·
                                   rw [if_pos c56] at H
                                   have c56b0 : decide (0 < ((rd_L1 (rd_L2 t347 x15_4) x14_3).length : Int)) = true := decide_eq_true c56
                                   have c56b1 : decide (0 < (rd_L1 (rd_L2 t347 x15_4) x14_3).length) = true := decide_eq_true (by omega)
                                   clear c56
                                   by_cases c57 : x11_2 < ((rd_L1 (rd_L2 t347 x15_4) x14_3).length : Int)
                                   ·
                                    rw [if_pos c57] at H
                                    have c57b0 : decide (x11_2 < ((rd_L1 (rd_L2 t347 x15_4) x14_3).length : Int)) = true := decide_eq_true c57
                                    clear c57
                                    have H' := Aside0.mk H
                                    clear H
                                    have hnb58 := NB351_340.out
                                    have hnc58 := NB340_351.out
                                    have hcz59_0 : wc.cell? ⟨gb351, 0, none⟩ = some (.slice (some ad358) t341.length co11) := (blk_cell BK351.out 0).trans rfl
                                    have hcz59_1 : wc.cell? ⟨gb351, 1, none⟩ = some (.slice (some ad360) t344.length co14) := (blk_cell BK351.out 1).trans rfl
                                    have hcz59_2 : wc.cell? ⟨gb351, 2, none⟩ = some (.slice Ao15 t347.length co15) := (blk_cell BK351.out 2).trans rfl
                                    have hfz59_0 := blk_frozen BK351.out 0
                                    have hfz59_1 := blk_frozen BK351.out 1
                                    have hfz59_2 := blk_frozen BK351.out 2
                                    have p364 : 0 ≤ (x14_3 : Int) := of_decide_eq_true (by first | (with_reducible assumption) | assumption)
                                    have q364 : x14_3 < (t347.length : Int) := of_decide_eq_true (by first | (with_reducible assumption) | assumption)
                                    obtain ⟨ad364, A364_0, c364_0, e364, hx364_0, hl364_0, hi364_0⟩ := at_L2 (Kd.R_reads' HO_352002.out).2.2 x14_3 p364 q364
                                    cases e364
                                    obtain ⟨ce364, hce364, hMe364, hcc364⟩ := Kd.R_get HO_352002.out [] x14_3 p364 (by first | exact q364 | exact of_decide_eq_true (by first | (with_reducible assumption) | assumption) | (have e_ := (Kd.R_reads' HO_352002.out).1; omega))
                                    obtain ⟨ve364_0, rfl, ge364_0⟩ := hMe364
                                    have hv364_0 := hcc364 0 _ rfl
                                    rw [Nat.add_zero, show ((Kd.slice 35 (Kd.slice 37 (Kd.int .u32)))).sz = 1 from rfl, Nat.mul_one] at hv364_0
                                    replace hv364_0 := Option.some.inj (hv364_0.symm.trans hx364_0)
                                    rw [hv364_0] at ge364_0
                                    have HL364_0 := Aside0.mk (show Kd.R (Kd.slice 37 (Kd.int .u32)) 35 _ _ _ _ (rd_L2 t347 x14_3) from ge364_0)
                                    clear hv364_0 ge364_0
                                    clear hcc364 hce364
                                    have HR364_0 := Aside0.mk hi364_0
                                    have HC364_0 := Aside0.mk hl364_0
                                    clear hi364_0 hl364_0
                                    replace p364 := eq_true p364
                                    replace q364 := eq_true q364
                                    have p365 : 0 ≤ (x15_4 : Int) := of_decide_eq_true (by first | (with_reducible assumption) | assumption)
                                    have q365 : x15_4 < ((rd_L2 t347 x14_3).length : Int) := of_decide_eq_true (by first | (with_reducible assumption) | assumption)
                                    obtain ⟨ad365, A365_0, c365_0, e365, hx365_0, hl365_0, hi365_0⟩ := at_L1 (by repeat (first | (with_reducible exact HR364_0.out) | (with_reducible refine Kd.C_alloc ?_ _) | (with_reducible refine Kd.C_drewN ?_ _) | (with_reducible refine Kd.C_drew ?_) | exact HR364_0.out)) x15_4 p365 q365
                                    cases e365
                                    obtain ⟨ce365, hce365, hMe365, hcc365⟩ := Kd.R_get HL364_0.out [] x15_4 p365 (by first | exact q365 | exact of_decide_eq_true (by first | (with_reducible assumption) | assumption) | (have e_ := (Kd.R_reads' HL364_0.out).1; omega))
                                    obtain ⟨ve365_0, rfl, ge365_0⟩ := hMe365
                                    have hv365_0 := hcc365 0 _ rfl
                                    rw [Nat.add_zero, show ((Kd.slice 37 (Kd.int .u32))).sz = 1 from rfl, Nat.mul_one] at hv365_0
                                    replace hv365_0 := Option.some.inj (hv365_0.symm.trans hx365_0)
                                    rw [hv365_0] at ge365_0
                                    have HL365_0 := Aside0.mk (show Kd.R (Kd.int .u32) 37 _ _ _ _ (rd_L1 (rd_L2 t347 x14_3) x15_4) from ge365_0)
                                    clear hv365_0 ge365_0
                                    clear hcc365 hce365
                                    have HR365_0 := Aside0.mk hi365_0
                                    have HC365_0 := Aside0.mk hl365_0
                                    clear hi365_0 hl365_0
                                    replace p365 := eq_true p365
                                    replace q365 := eq_true q365
                                    have p366 : 0 ≤ (x11_2 : Int) := of_decide_eq_true (by first | (with_reducible assumption) | assumption)
                                    have q366 : x11_2 < ((rd_L1 (rd_L2 t347 x14_3) x15_4).length : Int) := of_decide_eq_true (by first | (with_reducible assumption) | assumption)
                                    obtain ⟨ad366, e366, hx366_0⟩ := Kd.at_int (by repeat (first | (with_reducible exact HR365_0.out) | (with_reducible refine Kd.C_alloc ?_ _) | (with_reducible refine Kd.C_drewN ?_ _) | (with_reducible refine Kd.C_drew ?_) | exact HR365_0.out)) x11_2 p366 q366
                                    cases e366
                                    replace p366 := eq_true p366
                                    replace q366 := eq_true q366
                                    have p367 : 0 ≤ (x15_4 : Int) := of_decide_eq_true (by first | (with_reducible assumption) | assumption)
                                    have q367 : x15_4 < (t347.length : Int) := of_decide_eq_true (by first | (with_reducible assumption) | assumption)
                                    obtain ⟨ad367, A367_0, c367_0, e367, hx367_0, hl367_0, hi367_0⟩ := at_L2 (Kd.R_reads' HO_352002.out).2.2 x15_4 p367 q367
                                    obtain rfl : ad364 = ad367 := (by injection e367)
                                    obtain ⟨ce367, hce367, hMe367, hcc367⟩ := Kd.R_get HO_352002.out [] x15_4 p367 (by first | exact q367 | exact of_decide_eq_true (by first | (with_reducible assumption) | assumption) | (have e_ := (Kd.R_reads' HO_352002.out).1; omega))
                                    obtain ⟨ve367_0, rfl, ge367_0⟩ := hMe367
                                    have hv367_0 := hcc367 0 _ rfl
                                    rw [Nat.add_zero, show ((Kd.slice 35 (Kd.slice 37 (Kd.int .u32)))).sz = 1 from rfl, Nat.mul_one] at hv367_0
                                    replace hv367_0 := Option.some.inj (hv367_0.symm.trans hx367_0)
                                    rw [hv367_0] at ge367_0
                                    have HL367_0 := Aside0.mk (show Kd.R (Kd.slice 37 (Kd.int .u32)) 35 _ _ _ _ (rd_L2 t347 x15_4) from ge367_0)
                                    clear hv367_0 ge367_0
                                    clear hcc367 hce367
                                    have HR367_0 := Aside0.mk hi367_0
                                    have HC367_0 := Aside0.mk hl367_0
                                    clear hi367_0 hl367_0
                                    replace p367 := eq_true p367
                                    replace q367 := eq_true q367
                                    have p368 : 0 ≤ (x14_3 : Int) := of_decide_eq_true (by first | (with_reducible assumption) | assumption)
                                    have q368 : x14_3 < ((rd_L2 t347 x15_4).length : Int) := of_decide_eq_true (by first | (with_reducible assumption) | assumption)
                                    obtain ⟨ad368, A368_0, c368_0, e368, hx368_0, hl368_0, hi368_0⟩ := at_L1 (by repeat (first | (with_reducible exact HR367_0.out) | (with_reducible refine Kd.C_alloc ?_ _) | (with_reducible refine Kd.C_drewN ?_ _) | (with_reducible refine Kd.C_drew ?_) | exact HR367_0.out)) x14_3 p368 q368
                                    cases e368
                                    obtain ⟨ce368, hce368, hMe368, hcc368⟩ := Kd.R_get HL367_0.out [] x14_3 p368 (by first | exact q368 | exact of_decide_eq_true (by first | (with_reducible assumption) | assumption) | (have e_ := (Kd.R_reads' HL367_0.out).1; omega))
                                    obtain ⟨ve368_0, rfl, ge368_0⟩ := hMe368
                                    have hv368_0 := hcc368 0 _ rfl
                                    rw [Nat.add_zero, show ((Kd.slice 37 (Kd.int .u32))).sz = 1 from rfl, Nat.mul_one] at hv368_0
                                    replace hv368_0 := Option.some.inj (hv368_0.symm.trans hx368_0)
                                    rw [hv368_0] at ge368_0
                                    have HL368_0 := Aside0.mk (show Kd.R (Kd.int .u32) 37 _ _ _ _ (rd_L1 (rd_L2 t347 x15_4) x14_3) from ge368_0)
                                    clear hv368_0 ge368_0
                                    clear hcc368 hce368
                                    have HR368_0 := Aside0.mk hi368_0
                                    have HC368_0 := Aside0.mk hl368_0
                                    clear hi368_0 hl368_0
                                    replace p368 := eq_true p368
                                    replace q368 := eq_true q368
                                    have p369 : 0 ≤ (x15_4 : Int) := of_decide_eq_true (by first | (with_reducible assumption) | assumption)
                                    have q369 : x15_4 < (t347.length : Int) := of_decide_eq_true (by first | (with_reducible assumption) | assumption)
                                    obtain ⟨ad369, A369_0, c369_0, e369, hx369_0, hl369_0, hi369_0⟩ := at_L2 (Kd.R_reads' HO_352002.out).2.2 x15_4 p369 q369
                                    obtain rfl : ad364 = ad369 := (by injection e369)
                                    obtain ⟨ce369, hce369, hMe369, hcc369⟩ := Kd.R_get HO_352002.out [] x15_4 p369 (by first | exact q369 | exact of_decide_eq_true (by first | (with_reducible assumption) | assumption) | (have e_ := (Kd.R_reads' HO_352002.out).1; omega))
                                    obtain ⟨ve369_0, rfl, ge369_0⟩ := hMe369
                                    have hv369_0 := hcc369 0 _ rfl
                                    rw [Nat.add_zero, show ((Kd.slice 35 (Kd.slice 37 (Kd.int .u32)))).sz = 1 from rfl, Nat.mul_one] at hv369_0
                                    replace hv369_0 := Option.some.inj (hv369_0.symm.trans hx369_0)
                                    rw [hv369_0] at ge369_0
                                    have HL369_0 := Aside0.mk (show Kd.R (Kd.slice 37 (Kd.int .u32)) 35 _ _ _ _ (rd_L2 t347 x15_4) from ge369_0)
                                    clear hv369_0 ge369_0
                                    clear hcc369 hce369
                                    have HR369_0 := Aside0.mk hi369_0
                                    have HC369_0 := Aside0.mk hl369_0
                                    clear hi369_0 hl369_0
                                    replace p369 := eq_true p369
                                    replace q369 := eq_true q369
                                    have ea_ := Option.some.inj (hx367_0.symm.trans hx369_0)
                                    injection ea_ with ea_ en_ ec_
                                    subst ea_
                                    subst ec_
                                    clear en_
                                    have p370 : 0 ≤ (x14_3 : Int) := of_decide_eq_true (by first | (with_reducible assumption) | assumption)
                                    have q370 : x14_3 < ((rd_L2 t347 x15_4).length : Int) := of_decide_eq_true (by first | (with_reducible assumption) | assumption)
                                    obtain ⟨ad370, A370_0, c370_0, e370, hx370_0, hl370_0, hi370_0⟩ := at_L1 (by repeat (first | (with_reducible exact HR369_0.out) | (with_reducible refine Kd.C_alloc ?_ _) | (with_reducible refine Kd.C_drewN ?_ _) | (with_reducible refine Kd.C_drew ?_) | exact HR369_0.out)) x14_3 p370 q370
                                    cases e370
                                    obtain ⟨ce370, hce370, hMe370, hcc370⟩ := Kd.R_get HL369_0.out [] x14_3 p370 (by first | exact q370 | exact of_decide_eq_true (by first | (with_reducible assumption) | assumption) | (have e_ := (Kd.R_reads' HL369_0.out).1; omega))
                                    obtain ⟨ve370_0, rfl, ge370_0⟩ := hMe370
                                    have hv370_0 := hcc370 0 _ rfl
                                    rw [Nat.add_zero, show ((Kd.slice 37 (Kd.int .u32))).sz = 1 from rfl, Nat.mul_one] at hv370_0
                                    replace hv370_0 := Option.some.inj (hv370_0.symm.trans hx370_0)
                                    rw [hv370_0] at ge370_0
                                    have HL370_0 := Aside0.mk (show Kd.R (Kd.int .u32) 37 _ _ _ _ (rd_L1 (rd_L2 t347 x15_4) x14_3) from ge370_0)
                                    clear hv370_0 ge370_0
                                    clear hcc370 hce370
                                    have HR370_0 := Aside0.mk hi370_0
                                    have HC370_0 := Aside0.mk hl370_0
                                    clear hi370_0 hl370_0
                                    replace p370 := eq_true p370
                                    replace q370 := eq_true q370
                                    have ea_ := Option.some.inj (hx368_0.symm.trans hx370_0)
                                    injection ea_ with ea_ en_ ec_
                                    subst ea_
                                    subst ec_
                                    clear en_
                                    have p371 : 0 ≤ (x11_2 : Int) := of_decide_eq_true (by first | (with_reducible assumption) | assumption)
                                    have q371 : x11_2 < ((rd_L1 (rd_L2 t347 x15_4) x14_3).length : Int) := of_decide_eq_true (by first | (with_reducible assumption) | assumption)
                                    obtain ⟨ad371, e371, hx371_0⟩ := Kd.at_int (by repeat (first | (with_reducible exact HR370_0.out) | (with_reducible refine Kd.C_alloc ?_ _) | (with_reducible refine Kd.C_drewN ?_ _) | (with_reducible refine Kd.C_drew ?_) | exact HR370_0.out)) x11_2 p371 q371
                                    cases e371
                                    replace p371 := eq_true p371
                                    replace q371 := eq_true q371
                                    go_wp2
                                    repeat (go_quiet (fail); try go_wp2)
                                    go_roundg kj37
                                    case measure => have := HJ5.out; have := HK2.out; have := HK3.out; have := HK4.out; have := HJ37.out; omega
                                    case rel => exact ⟨((((x12_4 - (rd (rd_L1 (rd_L2 t347 x14_3) x15_4) x11_2)) % 4294967296) + (rd (rd_L1 (rd_L2 t347 x15_4) x14_3) x11_2)) % 4294967296), (wrap64 (x15_4 + 1)), (by first | rfl | (simp; done) | (simp [*]; done)), (by first | rfl | (simp; done) | (simp [*]; done)), H', ⟨by have := HJ5.out; have := HK2.out; have := HK3.out; have := HK4.out; have := HJ37.out; omega⟩, ⟨by (with_reducible repeat (first | apply Kd.R_alloc | apply Kd.R_drewN | apply Kd.R_drew)); exact HO_352000.out⟩, ⟨by (with_reducible repeat (first | apply Kd.R_alloc | apply Kd.R_drewN | apply Kd.R_drew)); exact HO_352001.out⟩, ⟨by (with_reducible repeat (first | apply Kd.R_alloc | apply Kd.R_drewN | apply Kd.R_drew)); exact HO_352002.out⟩, ⟨by (with_reducible repeat (first | refine blk_drewN ?_ _ | refine blk_drew ?_ | refine blk_alloc ?_ _)); exact BK340.out⟩, ⟨by (with_reducible repeat (first | refine blk_drewN ?_ _ | refine blk_drew ?_ | refine blk_alloc ?_ _)); exact BK351.out⟩, ⟨by repeat (first | (with_reducible exact HR358_0.out) | (with_reducible refine Kd.C_alloc ?_ _) | (with_reducible refine Kd.C_drewN ?_ _) | (with_reducible refine Kd.C_drew ?_) | exact HR358_0.out)⟩, ⟨by repeat (first | (with_reducible exact HR360_0.out) | (with_reducible refine Kd.C_alloc ?_ _) | (with_reducible refine Kd.C_drewN ?_ _) | (with_reducible refine Kd.C_drew ?_) | exact HR360_0.out)⟩, ⟨by repeat (first | (with_reducible first | exact HB.out | apply below_alloc | apply pw_below_drewN | apply below_drew1 | refine below_set ?_ GE340.out | refine below_set ?_ GE351.out) | exact HB.out)⟩⟩
                                   ·
                                    rw [if_neg c57] at H
                                    exact absurd H (by simp)
                                  ·
                                   rw [if_neg c56] at H
                                   have c56b0 : decide (0 < ((rd_L1 (rd_L2 t347 x15_4) x14_3).length : Int)) = false := decide_eq_false c56
                                   have c56b1 : decide (0 < (rd_L1 (rd_L2 t347 x15_4) x14_3).length) = false := decide_eq_false (by omega)
                                   clear c56
                                   have H' := Aside0.mk H
                                   clear H
                                   have hnb60 := NB351_340.out
                                   have hnc60 := NB340_351.out
                                   have hcz61_0 : wc.cell? ⟨gb351, 0, none⟩ = some (.slice (some ad358) t341.length co11) := (blk_cell BK351.out 0).trans rfl
                                   have hcz61_1 : wc.cell? ⟨gb351, 1, none⟩ = some (.slice (some ad360) t344.length co14) := (blk_cell BK351.out 1).trans rfl
                                   have hcz61_2 : wc.cell? ⟨gb351, 2, none⟩ = some (.slice Ao15 t347.length co15) := (blk_cell BK351.out 2).trans rfl
                                   have hfz61_0 := blk_frozen BK351.out 0
                                   have hfz61_1 := blk_frozen BK351.out 1
                                   have hfz61_2 := blk_frozen BK351.out 2
                                   have p364 : 0 ≤ (x14_3 : Int) := of_decide_eq_true (by first | (with_reducible assumption) | assumption)
                                   have q364 : x14_3 < (t347.length : Int) := of_decide_eq_true (by first | (with_reducible assumption) | assumption)
                                   obtain ⟨ad364, A364_0, c364_0, e364, hx364_0, hl364_0, hi364_0⟩ := at_L2 (Kd.R_reads' HO_352002.out).2.2 x14_3 p364 q364
                                   cases e364
                                   obtain ⟨ce364, hce364, hMe364, hcc364⟩ := Kd.R_get HO_352002.out [] x14_3 p364 (by first | exact q364 | exact of_decide_eq_true (by first | (with_reducible assumption) | assumption) | (have e_ := (Kd.R_reads' HO_352002.out).1; omega))
                                   obtain ⟨ve364_0, rfl, ge364_0⟩ := hMe364
                                   have hv364_0 := hcc364 0 _ rfl
                                   rw [Nat.add_zero, show ((Kd.slice 35 (Kd.slice 37 (Kd.int .u32)))).sz = 1 from rfl, Nat.mul_one] at hv364_0
                                   replace hv364_0 := Option.some.inj (hv364_0.symm.trans hx364_0)
                                   rw [hv364_0] at ge364_0
                                   have HL364_0 := Aside0.mk (show Kd.R (Kd.slice 37 (Kd.int .u32)) 35 _ _ _ _ (rd_L2 t347 x14_3) from ge364_0)
                                   clear hv364_0 ge364_0
                                   clear hcc364 hce364
                                   have HR364_0 := Aside0.mk hi364_0
                                   have HC364_0 := Aside0.mk hl364_0
                                   clear hi364_0 hl364_0
                                   replace p364 := eq_true p364
                                   replace q364 := eq_true q364
                                   have p365 : 0 ≤ (x15_4 : Int) := of_decide_eq_true (by first | (with_reducible assumption) | assumption)
                                   have q365 : x15_4 < ((rd_L2 t347 x14_3).length : Int) := of_decide_eq_true (by first | (with_reducible assumption) | assumption)
                                   obtain ⟨ad365, A365_0, c365_0, e365, hx365_0, hl365_0, hi365_0⟩ := at_L1 (by repeat (first | (with_reducible exact HR364_0.out) | (with_reducible refine Kd.C_alloc ?_ _) | (with_reducible refine Kd.C_drewN ?_ _) | (with_reducible refine Kd.C_drew ?_) | exact HR364_0.out)) x15_4 p365 q365
                                   cases e365
                                   obtain ⟨ce365, hce365, hMe365, hcc365⟩ := Kd.R_get HL364_0.out [] x15_4 p365 (by first | exact q365 | exact of_decide_eq_true (by first | (with_reducible assumption) | assumption) | (have e_ := (Kd.R_reads' HL364_0.out).1; omega))
                                   obtain ⟨ve365_0, rfl, ge365_0⟩ := hMe365
                                   have hv365_0 := hcc365 0 _ rfl
                                   rw [Nat.add_zero, show ((Kd.slice 37 (Kd.int .u32))).sz = 1 from rfl, Nat.mul_one] at hv365_0
                                   replace hv365_0 := Option.some.inj (hv365_0.symm.trans hx365_0)
                                   rw [hv365_0] at ge365_0
                                   have HL365_0 := Aside0.mk (show Kd.R (Kd.int .u32) 37 _ _ _ _ (rd_L1 (rd_L2 t347 x14_3) x15_4) from ge365_0)
                                   clear hv365_0 ge365_0
                                   clear hcc365 hce365
                                   have HR365_0 := Aside0.mk hi365_0
                                   have HC365_0 := Aside0.mk hl365_0
                                   clear hi365_0 hl365_0
                                   replace p365 := eq_true p365
                                   replace q365 := eq_true q365
                                   have p366 : 0 ≤ (x11_2 : Int) := of_decide_eq_true (by first | (with_reducible assumption) | assumption)
                                   have q366 : x11_2 < ((rd_L1 (rd_L2 t347 x14_3) x15_4).length : Int) := of_decide_eq_true (by first | (with_reducible assumption) | assumption)
                                   obtain ⟨ad366, e366, hx366_0⟩ := Kd.at_int (by repeat (first | (with_reducible exact HR365_0.out) | (with_reducible refine Kd.C_alloc ?_ _) | (with_reducible refine Kd.C_drewN ?_ _) | (with_reducible refine Kd.C_drew ?_) | exact HR365_0.out)) x11_2 p366 q366
                                   cases e366
                                   replace p366 := eq_true p366
                                   replace q366 := eq_true q366
                                   have p367 : 0 ≤ (x15_4 : Int) := of_decide_eq_true (by first | (with_reducible assumption) | assumption)
                                   have q367 : x15_4 < (t347.length : Int) := of_decide_eq_true (by first | (with_reducible assumption) | assumption)
                                   obtain ⟨ad367, A367_0, c367_0, e367, hx367_0, hl367_0, hi367_0⟩ := at_L2 (Kd.R_reads' HO_352002.out).2.2 x15_4 p367 q367
                                   obtain rfl : ad364 = ad367 := (by injection e367)
                                   obtain ⟨ce367, hce367, hMe367, hcc367⟩ := Kd.R_get HO_352002.out [] x15_4 p367 (by first | exact q367 | exact of_decide_eq_true (by first | (with_reducible assumption) | assumption) | (have e_ := (Kd.R_reads' HO_352002.out).1; omega))
                                   obtain ⟨ve367_0, rfl, ge367_0⟩ := hMe367
                                   have hv367_0 := hcc367 0 _ rfl
                                   rw [Nat.add_zero, show ((Kd.slice 35 (Kd.slice 37 (Kd.int .u32)))).sz = 1 from rfl, Nat.mul_one] at hv367_0
                                   replace hv367_0 := Option.some.inj (hv367_0.symm.trans hx367_0)
                                   rw [hv367_0] at ge367_0
                                   have HL367_0 := Aside0.mk (show Kd.R (Kd.slice 37 (Kd.int .u32)) 35 _ _ _ _ (rd_L2 t347 x15_4) from ge367_0)
                                   clear hv367_0 ge367_0
                                   clear hcc367 hce367
                                   have HR367_0 := Aside0.mk hi367_0
                                   have HC367_0 := Aside0.mk hl367_0
                                   clear hi367_0 hl367_0
                                   replace p367 := eq_true p367
                                   replace q367 := eq_true q367
                                   have p368 : 0 ≤ (x14_3 : Int) := of_decide_eq_true (by first | (with_reducible assumption) | assumption)
                                   have q368 : x14_3 < ((rd_L2 t347 x15_4).length : Int) := of_decide_eq_true (by first | (with_reducible assumption) | assumption)
                                   obtain ⟨ad368, A368_0, c368_0, e368, hx368_0, hl368_0, hi368_0⟩ := at_L1 (by repeat (first | (with_reducible exact HR367_0.out) | (with_reducible refine Kd.C_alloc ?_ _) | (with_reducible refine Kd.C_drewN ?_ _) | (with_reducible refine Kd.C_drew ?_) | exact HR367_0.out)) x14_3 p368 q368
                                   cases e368
                                   obtain ⟨ce368, hce368, hMe368, hcc368⟩ := Kd.R_get HL367_0.out [] x14_3 p368 (by first | exact q368 | exact of_decide_eq_true (by first | (with_reducible assumption) | assumption) | (have e_ := (Kd.R_reads' HL367_0.out).1; omega))
                                   obtain ⟨ve368_0, rfl, ge368_0⟩ := hMe368
                                   have hv368_0 := hcc368 0 _ rfl
                                   rw [Nat.add_zero, show ((Kd.slice 37 (Kd.int .u32))).sz = 1 from rfl, Nat.mul_one] at hv368_0
                                   replace hv368_0 := Option.some.inj (hv368_0.symm.trans hx368_0)
                                   rw [hv368_0] at ge368_0
                                   have HL368_0 := Aside0.mk (show Kd.R (Kd.int .u32) 37 _ _ _ _ (rd_L1 (rd_L2 t347 x15_4) x14_3) from ge368_0)
                                   clear hv368_0 ge368_0
                                   clear hcc368 hce368
                                   have HR368_0 := Aside0.mk hi368_0
                                   have HC368_0 := Aside0.mk hl368_0
                                   clear hi368_0 hl368_0
                                   replace p368 := eq_true p368
                                   replace q368 := eq_true q368
                                   go_wp2
                                   repeat (go_quiet (fail); try go_wp2)
                                   go_roundg kj37
                                   case measure => have := HJ5.out; have := HK2.out; have := HK3.out; have := HK4.out; have := HJ37.out; omega
                                   case rel => exact ⟨((x12_4 - (rd (rd_L1 (rd_L2 t347 x14_3) x15_4) x11_2)) % 4294967296), (wrap64 (x15_4 + 1)), (by first | rfl | (simp; done) | (simp [*]; done)), (by first | rfl | (simp; done) | (simp [*]; done)), H', ⟨by have := HJ5.out; have := HK2.out; have := HK3.out; have := HK4.out; have := HJ37.out; omega⟩, ⟨by (with_reducible repeat (first | apply Kd.R_alloc | apply Kd.R_drewN | apply Kd.R_drew)); exact HO_352000.out⟩, ⟨by (with_reducible repeat (first | apply Kd.R_alloc | apply Kd.R_drewN | apply Kd.R_drew)); exact HO_352001.out⟩, ⟨by (with_reducible repeat (first | apply Kd.R_alloc | apply Kd.R_drewN | apply Kd.R_drew)); exact HO_352002.out⟩, ⟨by (with_reducible repeat (first | refine blk_drewN ?_ _ | refine blk_drew ?_ | refine blk_alloc ?_ _)); exact BK340.out⟩, ⟨by (with_reducible repeat (first | refine blk_drewN ?_ _ | refine blk_drew ?_ | refine blk_alloc ?_ _)); exact BK351.out⟩, ⟨by repeat (first | (with_reducible exact HR358_0.out) | (with_reducible refine Kd.C_alloc ?_ _) | (with_reducible refine Kd.C_drewN ?_ _) | (with_reducible refine Kd.C_drew ?_) | exact HR358_0.out)⟩, ⟨by repeat (first | (with_reducible exact HR360_0.out) | (with_reducible refine Kd.C_alloc ?_ _) | (with_reducible refine Kd.C_drewN ?_ _) | (with_reducible refine Kd.C_drew ?_) | exact HR360_0.out)⟩, ⟨by repeat (first | (with_reducible first | exact HB.out | apply below_alloc | apply pw_below_drewN | apply below_drew1 | refine below_set ?_ GE340.out | refine below_set ?_ GE351.out) | exact HB.out)⟩⟩
                                 ·
                                  rw [if_neg c55] at H
                                  exact absurd H (by simp)
                                ·
                                 rw [if_neg c54] at H
                                 exact absurd H (by simp)
                               ·
                                rw [if_neg c53] at H
                                have c53b0 : decide (x15_4 < x14_3) = false := decide_eq_false c53
                                clear c53
                                have H' := Aside0.mk H
                                clear H
                                have hnb62 := NB351_340.out
                                have hnc62 := NB340_351.out
                                have hcz63_0 : wc.cell? ⟨gb351, 0, none⟩ = some (.slice (some ad358) t341.length co11) := (blk_cell BK351.out 0).trans rfl
                                have hcz63_1 : wc.cell? ⟨gb351, 1, none⟩ = some (.slice (some ad360) t344.length co14) := (blk_cell BK351.out 1).trans rfl
                                have hcz63_2 : wc.cell? ⟨gb351, 2, none⟩ = some (.slice Ao15 t347.length co15) := (blk_cell BK351.out 2).trans rfl
                                have hfz63_0 := blk_frozen BK351.out 0
                                have hfz63_1 := blk_frozen BK351.out 1
                                have hfz63_2 := blk_frozen BK351.out 2
                                have p364 : 0 ≤ (x14_3 : Int) := of_decide_eq_true (by first | (with_reducible assumption) | assumption)
                                have q364 : x14_3 < (t347.length : Int) := of_decide_eq_true (by first | (with_reducible assumption) | assumption)
                                obtain ⟨ad364, A364_0, c364_0, e364, hx364_0, hl364_0, hi364_0⟩ := at_L2 (Kd.R_reads' HO_352002.out).2.2 x14_3 p364 q364
                                cases e364
                                obtain ⟨ce364, hce364, hMe364, hcc364⟩ := Kd.R_get HO_352002.out [] x14_3 p364 (by first | exact q364 | exact of_decide_eq_true (by first | (with_reducible assumption) | assumption) | (have e_ := (Kd.R_reads' HO_352002.out).1; omega))
                                obtain ⟨ve364_0, rfl, ge364_0⟩ := hMe364
                                have hv364_0 := hcc364 0 _ rfl
                                rw [Nat.add_zero, show ((Kd.slice 35 (Kd.slice 37 (Kd.int .u32)))).sz = 1 from rfl, Nat.mul_one] at hv364_0
                                replace hv364_0 := Option.some.inj (hv364_0.symm.trans hx364_0)
                                rw [hv364_0] at ge364_0
                                have HL364_0 := Aside0.mk (show Kd.R (Kd.slice 37 (Kd.int .u32)) 35 _ _ _ _ (rd_L2 t347 x14_3) from ge364_0)
                                clear hv364_0 ge364_0
                                clear hcc364 hce364
                                have HR364_0 := Aside0.mk hi364_0
                                have HC364_0 := Aside0.mk hl364_0
                                clear hi364_0 hl364_0
                                replace p364 := eq_true p364
                                replace q364 := eq_true q364
                                have p365 : 0 ≤ (x15_4 : Int) := of_decide_eq_true (by first | (with_reducible assumption) | assumption)
                                have q365 : x15_4 < ((rd_L2 t347 x14_3).length : Int) := of_decide_eq_true (by first | (with_reducible assumption) | assumption)
                                obtain ⟨ad365, A365_0, c365_0, e365, hx365_0, hl365_0, hi365_0⟩ := at_L1 (by repeat (first | (with_reducible exact HR364_0.out) | (with_reducible refine Kd.C_alloc ?_ _) | (with_reducible refine Kd.C_drewN ?_ _) | (with_reducible refine Kd.C_drew ?_) | exact HR364_0.out)) x15_4 p365 q365
                                cases e365
                                obtain ⟨ce365, hce365, hMe365, hcc365⟩ := Kd.R_get HL364_0.out [] x15_4 p365 (by first | exact q365 | exact of_decide_eq_true (by first | (with_reducible assumption) | assumption) | (have e_ := (Kd.R_reads' HL364_0.out).1; omega))
                                obtain ⟨ve365_0, rfl, ge365_0⟩ := hMe365
                                have hv365_0 := hcc365 0 _ rfl
                                rw [Nat.add_zero, show ((Kd.slice 37 (Kd.int .u32))).sz = 1 from rfl, Nat.mul_one] at hv365_0
                                replace hv365_0 := Option.some.inj (hv365_0.symm.trans hx365_0)
                                rw [hv365_0] at ge365_0
                                have HL365_0 := Aside0.mk (show Kd.R (Kd.int .u32) 37 _ _ _ _ (rd_L1 (rd_L2 t347 x14_3) x15_4) from ge365_0)
                                clear hv365_0 ge365_0
                                clear hcc365 hce365
                                have HR365_0 := Aside0.mk hi365_0
                                have HC365_0 := Aside0.mk hl365_0
                                clear hi365_0 hl365_0
                                replace p365 := eq_true p365
                                replace q365 := eq_true q365
                                have p366 : 0 ≤ (x11_2 : Int) := of_decide_eq_true (by first | (with_reducible assumption) | assumption)
                                have q366 : x11_2 < ((rd_L1 (rd_L2 t347 x14_3) x15_4).length : Int) := of_decide_eq_true (by first | (with_reducible assumption) | assumption)
                                obtain ⟨ad366, e366, hx366_0⟩ := Kd.at_int (by repeat (first | (with_reducible exact HR365_0.out) | (with_reducible refine Kd.C_alloc ?_ _) | (with_reducible refine Kd.C_drewN ?_ _) | (with_reducible refine Kd.C_drew ?_) | exact HR365_0.out)) x11_2 p366 q366
                                cases e366
                                replace p366 := eq_true p366
                                replace q366 := eq_true q366
                                go_wp2
                                repeat (go_quiet (fail); try go_wp2)
                                go_roundg kj37
                                case measure => have := HJ5.out; have := HK2.out; have := HK3.out; have := HK4.out; have := HJ37.out; omega
                                case rel => exact ⟨((x12_4 - (rd (rd_L1 (rd_L2 t347 x14_3) x15_4) x11_2)) % 4294967296), (wrap64 (x15_4 + 1)), (by first | rfl | (simp; done) | (simp [*]; done)), (by first | rfl | (simp; done) | (simp [*]; done)), H', ⟨by have := HJ5.out; have := HK2.out; have := HK3.out; have := HK4.out; have := HJ37.out; omega⟩, ⟨by (with_reducible repeat (first | apply Kd.R_alloc | apply Kd.R_drewN | apply Kd.R_drew)); exact HO_352000.out⟩, ⟨by (with_reducible repeat (first | apply Kd.R_alloc | apply Kd.R_drewN | apply Kd.R_drew)); exact HO_352001.out⟩, ⟨by (with_reducible repeat (first | apply Kd.R_alloc | apply Kd.R_drewN | apply Kd.R_drew)); exact HO_352002.out⟩, ⟨by (with_reducible repeat (first | refine blk_drewN ?_ _ | refine blk_drew ?_ | refine blk_alloc ?_ _)); exact BK340.out⟩, ⟨by (with_reducible repeat (first | refine blk_drewN ?_ _ | refine blk_drew ?_ | refine blk_alloc ?_ _)); exact BK351.out⟩, ⟨by repeat (first | (with_reducible exact HR358_0.out) | (with_reducible refine Kd.C_alloc ?_ _) | (with_reducible refine Kd.C_drewN ?_ _) | (with_reducible refine Kd.C_drew ?_) | exact HR358_0.out)⟩, ⟨by repeat (first | (with_reducible exact HR360_0.out) | (with_reducible refine Kd.C_alloc ?_ _) | (with_reducible refine Kd.C_drewN ?_ _) | (with_reducible refine Kd.C_drew ?_) | exact HR360_0.out)⟩, ⟨by repeat (first | (with_reducible first | exact HB.out | apply below_alloc | apply pw_below_drewN | apply below_drew1 | refine below_set ?_ GE340.out | refine below_set ?_ GE351.out) | exact HB.out)⟩⟩
                              ·
                               rw [if_neg c52] at H
                               exact absurd H (by simp)
                             ·
                              rw [if_neg c51] at H
                              exact absurd H (by simp)
                            ·
                             rw [if_neg c50] at H
                             exact absurd H (by simp)
                           ·
                            rw [if_neg c49] at H
                            exact absurd H (by simp)
                          ·
                           rw [if_neg c48] at H
                           exact absurd H (by simp)
                         ·
                          rw [if_neg c47] at H
                          exact absurd H (by simp)
                        ·
                         replace c46 := Bool.eq_false_iff.mpr c46
                         subst c46
                         have H1 : (if x15_4 < x14_3 then (if 0 ≤ x15_4 then (if x15_4 < (t347.length : Int) then (if 0 ≤ x14_3 then (if x14_3 < ((rd_L2 t347 x15_4).length : Int) then (if ((rd_L1 (rd_L2 t347 x15_4) x14_3).length : Int) > 0 then (if 0 ≤ x11_2 then (if x11_2 < ((rd_L1 (rd_L2 t347 x15_4) x14_3).length : Int) then (offertorylaw25_IdealSum.l2 kj37 l0 a3 x11_2 ((x12_4 + (rd (rd_L1 (rd_L2 t347 x15_4) x14_3) x11_2)) % 4294967296) ((x13_3 + (rd (rd_L1 l0 x14_3) x11_2)) % 4294967296) x14_3 (wrap64 (x15_4 + 1)) t341 t344 t347) else (none)) else (none)) else (offertorylaw25_IdealSum.l2 kj37 l0 a3 x11_2 x12_4 ((x13_3 + (rd (rd_L1 l0 x14_3) x11_2)) % 4294967296) x14_3 (wrap64 (x15_4 + 1)) t341 t344 t347)) else (none)) else (none)) else (none)) else (none)) else (offertorylaw25_IdealSum.l2 kj37 l0 a3 x11_2 x12_4 ((x13_3 + (rd (rd_L1 l0 x14_3) x11_2)) % 4294967296) x14_3 (wrap64 (x15_4 + 1)) t341 t344 t347)) = some r := by rw [if_neg (show ¬ (false = true) by decide)] at H; exact H
                         clear H
                         have H := H1
                         clear H1
                         by_cases c64 : x15_4 < x14_3
                         ·
                          rw [if_pos c64] at H
                          have c64b0 : decide (x15_4 < x14_3) = true := decide_eq_true c64
                          clear c64
                          by_cases c65 : 0 ≤ x15_4
                          ·
                           rw [if_pos c65] at H
                           have c65b0 : decide (0 ≤ x15_4) = true := decide_eq_true c65
                           clear c65
                           by_cases c66 : x15_4 < (t347.length : Int)
                           ·
                            rw [if_pos c66] at H
                            have c66b0 : decide (x15_4 < (t347.length : Int)) = true := decide_eq_true c66
                            clear c66
                            by_cases c67 : 0 ≤ x14_3
                            ·
                             rw [if_pos c67] at H
                             have c67b0 : decide (0 ≤ x14_3) = true := decide_eq_true c67
                             clear c67
                             by_cases c68 : x14_3 < ((rd_L2 t347 x15_4).length : Int)
                             ·
                              rw [if_pos c68] at H
                              have c68b0 : decide (x14_3 < ((rd_L2 t347 x15_4).length : Int)) = true := decide_eq_true c68
                              clear c68
                              by_cases c69 : ((rd_L1 (rd_L2 t347 x15_4) x14_3).length : Int) > 0
                              ·
                               rw [if_pos c69] at H
                               have c69b0 : decide (0 < ((rd_L1 (rd_L2 t347 x15_4) x14_3).length : Int)) = true := decide_eq_true c69
                               have c69b1 : decide (0 < (rd_L1 (rd_L2 t347 x15_4) x14_3).length) = true := decide_eq_true (by omega)
                               clear c69
                               by_cases c70 : 0 ≤ x11_2
                               ·
                                rw [if_pos c70] at H
                                have c70b0 : decide (0 ≤ x11_2) = true := decide_eq_true c70
                                clear c70
                                by_cases c71 : x11_2 < ((rd_L1 (rd_L2 t347 x15_4) x14_3).length : Int)
                                ·
                                 rw [if_pos c71] at H
                                 have c71b0 : decide (x11_2 < ((rd_L1 (rd_L2 t347 x15_4) x14_3).length : Int)) = true := decide_eq_true c71
                                 clear c71
                                 have H' := Aside0.mk H
                                 clear H
                                 have hnb72 := NB351_340.out
                                 have hnc72 := NB340_351.out
                                 have hcz73_0 : wc.cell? ⟨gb351, 0, none⟩ = some (.slice (some ad358) t341.length co11) := (blk_cell BK351.out 0).trans rfl
                                 have hcz73_1 : wc.cell? ⟨gb351, 1, none⟩ = some (.slice (some ad360) t344.length co14) := (blk_cell BK351.out 1).trans rfl
                                 have hcz73_2 : wc.cell? ⟨gb351, 2, none⟩ = some (.slice Ao15 t347.length co15) := (blk_cell BK351.out 2).trans rfl
                                 have hfz73_0 := blk_frozen BK351.out 0
                                 have hfz73_1 := blk_frozen BK351.out 1
                                 have hfz73_2 := blk_frozen BK351.out 2
                                 have p372 : 0 ≤ (x15_4 : Int) := of_decide_eq_true (by first | (with_reducible assumption) | assumption)
                                 have q372 : x15_4 < (t347.length : Int) := of_decide_eq_true (by first | (with_reducible assumption) | assumption)
                                 obtain ⟨ad372, A372_0, c372_0, e372, hx372_0, hl372_0, hi372_0⟩ := at_L2 (Kd.R_reads' HO_352002.out).2.2 x15_4 p372 q372
                                 cases e372
                                 obtain ⟨ce372, hce372, hMe372, hcc372⟩ := Kd.R_get HO_352002.out [] x15_4 p372 (by first | exact q372 | exact of_decide_eq_true (by first | (with_reducible assumption) | assumption) | (have e_ := (Kd.R_reads' HO_352002.out).1; omega))
                                 obtain ⟨ve372_0, rfl, ge372_0⟩ := hMe372
                                 have hv372_0 := hcc372 0 _ rfl
                                 rw [Nat.add_zero, show ((Kd.slice 35 (Kd.slice 37 (Kd.int .u32)))).sz = 1 from rfl, Nat.mul_one] at hv372_0
                                 replace hv372_0 := Option.some.inj (hv372_0.symm.trans hx372_0)
                                 rw [hv372_0] at ge372_0
                                 have HL372_0 := Aside0.mk (show Kd.R (Kd.slice 37 (Kd.int .u32)) 35 _ _ _ _ (rd_L2 t347 x15_4) from ge372_0)
                                 clear hv372_0 ge372_0
                                 clear hcc372 hce372
                                 have HR372_0 := Aside0.mk hi372_0
                                 have HC372_0 := Aside0.mk hl372_0
                                 clear hi372_0 hl372_0
                                 replace p372 := eq_true p372
                                 replace q372 := eq_true q372
                                 have p373 : 0 ≤ (x14_3 : Int) := of_decide_eq_true (by first | (with_reducible assumption) | assumption)
                                 have q373 : x14_3 < ((rd_L2 t347 x15_4).length : Int) := of_decide_eq_true (by first | (with_reducible assumption) | assumption)
                                 obtain ⟨ad373, A373_0, c373_0, e373, hx373_0, hl373_0, hi373_0⟩ := at_L1 (by repeat (first | (with_reducible exact HR372_0.out) | (with_reducible refine Kd.C_alloc ?_ _) | (with_reducible refine Kd.C_drewN ?_ _) | (with_reducible refine Kd.C_drew ?_) | exact HR372_0.out)) x14_3 p373 q373
                                 cases e373
                                 obtain ⟨ce373, hce373, hMe373, hcc373⟩ := Kd.R_get HL372_0.out [] x14_3 p373 (by first | exact q373 | exact of_decide_eq_true (by first | (with_reducible assumption) | assumption) | (have e_ := (Kd.R_reads' HL372_0.out).1; omega))
                                 obtain ⟨ve373_0, rfl, ge373_0⟩ := hMe373
                                 have hv373_0 := hcc373 0 _ rfl
                                 rw [Nat.add_zero, show ((Kd.slice 37 (Kd.int .u32))).sz = 1 from rfl, Nat.mul_one] at hv373_0
                                 replace hv373_0 := Option.some.inj (hv373_0.symm.trans hx373_0)
                                 rw [hv373_0] at ge373_0
                                 have HL373_0 := Aside0.mk (show Kd.R (Kd.int .u32) 37 _ _ _ _ (rd_L1 (rd_L2 t347 x15_4) x14_3) from ge373_0)
                                 clear hv373_0 ge373_0
                                 clear hcc373 hce373
                                 have HR373_0 := Aside0.mk hi373_0
                                 have HC373_0 := Aside0.mk hl373_0
                                 clear hi373_0 hl373_0
                                 replace p373 := eq_true p373
                                 replace q373 := eq_true q373
                                 have p374 : 0 ≤ (x15_4 : Int) := of_decide_eq_true (by first | (with_reducible assumption) | assumption)
                                 have q374 : x15_4 < (t347.length : Int) := of_decide_eq_true (by first | (with_reducible assumption) | assumption)
                                 obtain ⟨ad374, A374_0, c374_0, e374, hx374_0, hl374_0, hi374_0⟩ := at_L2 (Kd.R_reads' HO_352002.out).2.2 x15_4 p374 q374
                                 obtain rfl : ad372 = ad374 := (by injection e374)
                                 obtain ⟨ce374, hce374, hMe374, hcc374⟩ := Kd.R_get HO_352002.out [] x15_4 p374 (by first | exact q374 | exact of_decide_eq_true (by first | (with_reducible assumption) | assumption) | (have e_ := (Kd.R_reads' HO_352002.out).1; omega))
                                 obtain ⟨ve374_0, rfl, ge374_0⟩ := hMe374
                                 have hv374_0 := hcc374 0 _ rfl
                                 rw [Nat.add_zero, show ((Kd.slice 35 (Kd.slice 37 (Kd.int .u32)))).sz = 1 from rfl, Nat.mul_one] at hv374_0
                                 replace hv374_0 := Option.some.inj (hv374_0.symm.trans hx374_0)
                                 rw [hv374_0] at ge374_0
                                 have HL374_0 := Aside0.mk (show Kd.R (Kd.slice 37 (Kd.int .u32)) 35 _ _ _ _ (rd_L2 t347 x15_4) from ge374_0)
                                 clear hv374_0 ge374_0
                                 clear hcc374 hce374
                                 have HR374_0 := Aside0.mk hi374_0
                                 have HC374_0 := Aside0.mk hl374_0
                                 clear hi374_0 hl374_0
                                 replace p374 := eq_true p374
                                 replace q374 := eq_true q374
                                 have ea_ := Option.some.inj (hx372_0.symm.trans hx374_0)
                                 injection ea_ with ea_ en_ ec_
                                 subst ea_
                                 subst ec_
                                 clear en_
                                 have p375 : 0 ≤ (x14_3 : Int) := of_decide_eq_true (by first | (with_reducible assumption) | assumption)
                                 have q375 : x14_3 < ((rd_L2 t347 x15_4).length : Int) := of_decide_eq_true (by first | (with_reducible assumption) | assumption)
                                 obtain ⟨ad375, A375_0, c375_0, e375, hx375_0, hl375_0, hi375_0⟩ := at_L1 (by repeat (first | (with_reducible exact HR374_0.out) | (with_reducible refine Kd.C_alloc ?_ _) | (with_reducible refine Kd.C_drewN ?_ _) | (with_reducible refine Kd.C_drew ?_) | exact HR374_0.out)) x14_3 p375 q375
                                 cases e375
                                 obtain ⟨ce375, hce375, hMe375, hcc375⟩ := Kd.R_get HL374_0.out [] x14_3 p375 (by first | exact q375 | exact of_decide_eq_true (by first | (with_reducible assumption) | assumption) | (have e_ := (Kd.R_reads' HL374_0.out).1; omega))
                                 obtain ⟨ve375_0, rfl, ge375_0⟩ := hMe375
                                 have hv375_0 := hcc375 0 _ rfl
                                 rw [Nat.add_zero, show ((Kd.slice 37 (Kd.int .u32))).sz = 1 from rfl, Nat.mul_one] at hv375_0
                                 replace hv375_0 := Option.some.inj (hv375_0.symm.trans hx375_0)
                                 rw [hv375_0] at ge375_0
                                 have HL375_0 := Aside0.mk (show Kd.R (Kd.int .u32) 37 _ _ _ _ (rd_L1 (rd_L2 t347 x15_4) x14_3) from ge375_0)
                                 clear hv375_0 ge375_0
                                 clear hcc375 hce375
                                 have HR375_0 := Aside0.mk hi375_0
                                 have HC375_0 := Aside0.mk hl375_0
                                 clear hi375_0 hl375_0
                                 replace p375 := eq_true p375
                                 replace q375 := eq_true q375
                                 have ea_ := Option.some.inj (hx373_0.symm.trans hx375_0)
                                 injection ea_ with ea_ en_ ec_
                                 subst ea_
                                 subst ec_
                                 clear en_
                                 have p376 : 0 ≤ (x11_2 : Int) := of_decide_eq_true (by first | (with_reducible assumption) | assumption)
                                 have q376 : x11_2 < ((rd_L1 (rd_L2 t347 x15_4) x14_3).length : Int) := of_decide_eq_true (by first | (with_reducible assumption) | assumption)
                                 obtain ⟨ad376, e376, hx376_0⟩ := Kd.at_int (by repeat (first | (with_reducible exact HR375_0.out) | (with_reducible refine Kd.C_alloc ?_ _) | (with_reducible refine Kd.C_drewN ?_ _) | (with_reducible refine Kd.C_drew ?_) | exact HR375_0.out)) x11_2 p376 q376
                                 cases e376
                                 replace p376 := eq_true p376
                                 replace q376 := eq_true q376
                                 go_wp2
                                 repeat (go_quiet (fail); try go_wp2)
                                 go_roundg kj37
                                 case measure => have := HJ5.out; have := HK2.out; have := HK3.out; have := HK4.out; have := HJ37.out; omega
                                 case rel => exact ⟨((x12_4 + (rd (rd_L1 (rd_L2 t347 x15_4) x14_3) x11_2)) % 4294967296), (wrap64 (x15_4 + 1)), (by first | rfl | (simp; done) | (simp [*]; done)), (by first | rfl | (simp; done) | (simp [*]; done)), H', ⟨by have := HJ5.out; have := HK2.out; have := HK3.out; have := HK4.out; have := HJ37.out; omega⟩, ⟨by (with_reducible repeat (first | apply Kd.R_alloc | apply Kd.R_drewN | apply Kd.R_drew)); exact HO_352000.out⟩, ⟨by (with_reducible repeat (first | apply Kd.R_alloc | apply Kd.R_drewN | apply Kd.R_drew)); exact HO_352001.out⟩, ⟨by (with_reducible repeat (first | apply Kd.R_alloc | apply Kd.R_drewN | apply Kd.R_drew)); exact HO_352002.out⟩, ⟨by (with_reducible repeat (first | refine blk_drewN ?_ _ | refine blk_drew ?_ | refine blk_alloc ?_ _)); exact BK340.out⟩, ⟨by (with_reducible repeat (first | refine blk_drewN ?_ _ | refine blk_drew ?_ | refine blk_alloc ?_ _)); exact BK351.out⟩, ⟨by repeat (first | (with_reducible exact HR358_0.out) | (with_reducible refine Kd.C_alloc ?_ _) | (with_reducible refine Kd.C_drewN ?_ _) | (with_reducible refine Kd.C_drew ?_) | exact HR358_0.out)⟩, ⟨by repeat (first | (with_reducible exact HR360_0.out) | (with_reducible refine Kd.C_alloc ?_ _) | (with_reducible refine Kd.C_drewN ?_ _) | (with_reducible refine Kd.C_drew ?_) | exact HR360_0.out)⟩, ⟨by repeat (first | (with_reducible first | exact HB.out | apply below_alloc | apply pw_below_drewN | apply below_drew1 | refine below_set ?_ GE340.out | refine below_set ?_ GE351.out) | exact HB.out)⟩⟩
                                ·
                                 rw [if_neg c71] at H
                                 exact absurd H (by simp)
                               ·
                                rw [if_neg c70] at H
                                exact absurd H (by simp)
                              ·
                               rw [if_neg c69] at H
                               have c69b0 : decide (0 < ((rd_L1 (rd_L2 t347 x15_4) x14_3).length : Int)) = false := decide_eq_false c69
                               have c69b1 : decide (0 < (rd_L1 (rd_L2 t347 x15_4) x14_3).length) = false := decide_eq_false (by omega)
                               clear c69
                               have H' := Aside0.mk H
                               clear H
                               have hnb74 := NB351_340.out
                               have hnc74 := NB340_351.out
                               have hcz75_0 : wc.cell? ⟨gb351, 0, none⟩ = some (.slice (some ad358) t341.length co11) := (blk_cell BK351.out 0).trans rfl
                               have hcz75_1 : wc.cell? ⟨gb351, 1, none⟩ = some (.slice (some ad360) t344.length co14) := (blk_cell BK351.out 1).trans rfl
                               have hcz75_2 : wc.cell? ⟨gb351, 2, none⟩ = some (.slice Ao15 t347.length co15) := (blk_cell BK351.out 2).trans rfl
                               have hfz75_0 := blk_frozen BK351.out 0
                               have hfz75_1 := blk_frozen BK351.out 1
                               have hfz75_2 := blk_frozen BK351.out 2
                               have p372 : 0 ≤ (x15_4 : Int) := of_decide_eq_true (by first | (with_reducible assumption) | assumption)
                               have q372 : x15_4 < (t347.length : Int) := of_decide_eq_true (by first | (with_reducible assumption) | assumption)
                               obtain ⟨ad372, A372_0, c372_0, e372, hx372_0, hl372_0, hi372_0⟩ := at_L2 (Kd.R_reads' HO_352002.out).2.2 x15_4 p372 q372
                               cases e372
                               obtain ⟨ce372, hce372, hMe372, hcc372⟩ := Kd.R_get HO_352002.out [] x15_4 p372 (by first | exact q372 | exact of_decide_eq_true (by first | (with_reducible assumption) | assumption) | (have e_ := (Kd.R_reads' HO_352002.out).1; omega))
                               obtain ⟨ve372_0, rfl, ge372_0⟩ := hMe372
                               have hv372_0 := hcc372 0 _ rfl
                               rw [Nat.add_zero, show ((Kd.slice 35 (Kd.slice 37 (Kd.int .u32)))).sz = 1 from rfl, Nat.mul_one] at hv372_0
                               replace hv372_0 := Option.some.inj (hv372_0.symm.trans hx372_0)
                               rw [hv372_0] at ge372_0
                               have HL372_0 := Aside0.mk (show Kd.R (Kd.slice 37 (Kd.int .u32)) 35 _ _ _ _ (rd_L2 t347 x15_4) from ge372_0)
                               clear hv372_0 ge372_0
                               clear hcc372 hce372
                               have HR372_0 := Aside0.mk hi372_0
                               have HC372_0 := Aside0.mk hl372_0
                               clear hi372_0 hl372_0
                               replace p372 := eq_true p372
                               replace q372 := eq_true q372
                               have p373 : 0 ≤ (x14_3 : Int) := of_decide_eq_true (by first | (with_reducible assumption) | assumption)
                               have q373 : x14_3 < ((rd_L2 t347 x15_4).length : Int) := of_decide_eq_true (by first | (with_reducible assumption) | assumption)
                               obtain ⟨ad373, A373_0, c373_0, e373, hx373_0, hl373_0, hi373_0⟩ := at_L1 (by repeat (first | (with_reducible exact HR372_0.out) | (with_reducible refine Kd.C_alloc ?_ _) | (with_reducible refine Kd.C_drewN ?_ _) | (with_reducible refine Kd.C_drew ?_) | exact HR372_0.out)) x14_3 p373 q373
                               cases e373
                               obtain ⟨ce373, hce373, hMe373, hcc373⟩ := Kd.R_get HL372_0.out [] x14_3 p373 (by first | exact q373 | exact of_decide_eq_true (by first | (with_reducible assumption) | assumption) | (have e_ := (Kd.R_reads' HL372_0.out).1; omega))
                               obtain ⟨ve373_0, rfl, ge373_0⟩ := hMe373
                               have hv373_0 := hcc373 0 _ rfl
                               rw [Nat.add_zero, show ((Kd.slice 37 (Kd.int .u32))).sz = 1 from rfl, Nat.mul_one] at hv373_0
                               replace hv373_0 := Option.some.inj (hv373_0.symm.trans hx373_0)
                               rw [hv373_0] at ge373_0
                               have HL373_0 := Aside0.mk (show Kd.R (Kd.int .u32) 37 _ _ _ _ (rd_L1 (rd_L2 t347 x15_4) x14_3) from ge373_0)
                               clear hv373_0 ge373_0
                               clear hcc373 hce373
                               have HR373_0 := Aside0.mk hi373_0
                               have HC373_0 := Aside0.mk hl373_0
                               clear hi373_0 hl373_0
                               replace p373 := eq_true p373
                               replace q373 := eq_true q373
                               go_wp2
                               repeat (go_quiet (fail); try go_wp2)
                               go_roundg kj37
                               case measure => have := HJ5.out; have := HK2.out; have := HK3.out; have := HK4.out; have := HJ37.out; omega
                               case rel => exact ⟨(x12_4), (wrap64 (x15_4 + 1)), (by first | rfl | (simp; done) | (simp [*]; done)), (by first | rfl | (simp; done) | (simp [*]; done)), H', ⟨by have := HJ5.out; have := HK2.out; have := HK3.out; have := HK4.out; have := HJ37.out; omega⟩, ⟨by (with_reducible repeat (first | apply Kd.R_alloc | apply Kd.R_drewN | apply Kd.R_drew)); exact HO_352000.out⟩, ⟨by (with_reducible repeat (first | apply Kd.R_alloc | apply Kd.R_drewN | apply Kd.R_drew)); exact HO_352001.out⟩, ⟨by (with_reducible repeat (first | apply Kd.R_alloc | apply Kd.R_drewN | apply Kd.R_drew)); exact HO_352002.out⟩, ⟨by (with_reducible repeat (first | refine blk_drewN ?_ _ | refine blk_drew ?_ | refine blk_alloc ?_ _)); exact BK340.out⟩, ⟨by (with_reducible repeat (first | refine blk_drewN ?_ _ | refine blk_drew ?_ | refine blk_alloc ?_ _)); exact BK351.out⟩, ⟨by repeat (first | (with_reducible exact HR358_0.out) | (with_reducible refine Kd.C_alloc ?_ _) | (with_reducible refine Kd.C_drewN ?_ _) | (with_reducible refine Kd.C_drew ?_) | exact HR358_0.out)⟩, ⟨by repeat (first | (with_reducible exact HR360_0.out) | (with_reducible refine Kd.C_alloc ?_ _) | (with_reducible refine Kd.C_drewN ?_ _) | (with_reducible refine Kd.C_drew ?_) | exact HR360_0.out)⟩, ⟨by repeat (first | (with_reducible first | exact HB.out | apply below_alloc | apply pw_below_drewN | apply below_drew1 | refine below_set ?_ GE340.out | refine below_set ?_ GE351.out) | exact HB.out)⟩⟩
                             ·
                              rw [if_neg c68] at H
                              exact absurd H (by simp)
                            ·
                             rw [if_neg c67] at H
                             exact absurd H (by simp)
                           ·
                            rw [if_neg c66] at H
                            exact absurd H (by simp)
                          ·
                           rw [if_neg c65] at H
                           exact absurd H (by simp)
                         ·
                          rw [if_neg c64] at H
                          have c64b0 : decide (x15_4 < x14_3) = false := decide_eq_false c64
                          clear c64
                          have H' := Aside0.mk H
                          clear H
                          go_wp2
                          repeat (go_quiet (fail); try go_wp2)
                          go_roundg kj37
                          case measure => have := HJ5.out; have := HK2.out; have := HK3.out; have := HK4.out; have := HJ37.out; omega
                          case rel => exact ⟨(x12_4), (wrap64 (x15_4 + 1)), (by first | rfl | (simp; done) | (simp [*]; done)), (by first | rfl | (simp; done) | (simp [*]; done)), H', ⟨by have := HJ5.out; have := HK2.out; have := HK3.out; have := HK4.out; have := HJ37.out; omega⟩, ⟨by (with_reducible repeat (first | apply Kd.R_alloc | apply Kd.R_drewN | apply Kd.R_drew)); exact HO_352000.out⟩, ⟨by (with_reducible repeat (first | apply Kd.R_alloc | apply Kd.R_drewN | apply Kd.R_drew)); exact HO_352001.out⟩, ⟨by (with_reducible repeat (first | apply Kd.R_alloc | apply Kd.R_drewN | apply Kd.R_drew)); exact HO_352002.out⟩, ⟨by (with_reducible repeat (first | refine blk_drewN ?_ _ | refine blk_drew ?_ | refine blk_alloc ?_ _)); exact BK340.out⟩, ⟨by (with_reducible repeat (first | refine blk_drewN ?_ _ | refine blk_drew ?_ | refine blk_alloc ?_ _)); exact BK351.out⟩, ⟨by repeat (first | (with_reducible exact HR358_0.out) | (with_reducible refine Kd.C_alloc ?_ _) | (with_reducible refine Kd.C_drewN ?_ _) | (with_reducible refine Kd.C_drew ?_) | exact HR358_0.out)⟩, ⟨by repeat (first | (with_reducible exact HR360_0.out) | (with_reducible refine Kd.C_alloc ?_ _) | (with_reducible refine Kd.C_drewN ?_ _) | (with_reducible refine Kd.C_drew ?_) | exact HR360_0.out)⟩, ⟨by repeat (first | (with_reducible first | exact HB.out | apply below_alloc | apply pw_below_drewN | apply below_drew1 | refine below_set ?_ GE340.out | refine below_set ?_ GE351.out) | exact HB.out)⟩⟩
                     ·
                      rw [if_neg c37] at H
                      have c37b0 : decide (x15_4 < (l0.length : Int)) = false := decide_eq_false c37
                      clear c37
                      have H' := Aside0.mk H
                      clear H
                      go_wp2
                      repeat (go_quiet (fail); try go_wp2)
                      go_roundg k4
                      case measure => have := HJ5.out; have := HK2.out; have := HK3.out; have := HK4.out; omega
                      case rel => exact ⟨(x12_4), (((x13_3 + (rd (rd_L1 l0 x14_3) x11_2)) % 4294967296)), (wrap64 (x14_3 + 1)), (by first | rfl | (simp; done) | (simp [*]; done)), (by first | rfl | (simp; done) | (simp [*]; done)), (by first | rfl | (simp; done) | (simp [*]; done)), H', ⟨by have := HJ5.out; have := HK2.out; have := HK3.out; have := HK4.out; omega⟩, ⟨by (with_reducible repeat (first | apply Kd.R_alloc | apply Kd.R_drewN | apply Kd.R_drew)); exact HO_352000.out⟩, ⟨by (with_reducible repeat (first | apply Kd.R_alloc | apply Kd.R_drewN | apply Kd.R_drew)); exact HO_352001.out⟩, ⟨by (with_reducible repeat (first | apply Kd.R_alloc | apply Kd.R_drewN | apply Kd.R_drew)); exact HO_352002.out⟩, ⟨by (with_reducible repeat (first | refine blk_drewN ?_ _ | refine blk_drew ?_ | refine blk_alloc ?_ _)); exact BK340.out⟩, ⟨by (with_reducible repeat (first | refine blk_drewN ?_ _ | refine blk_drew ?_ | refine blk_alloc ?_ _)); exact BK351.out⟩, ⟨by repeat (first | (with_reducible first | exact HB.out | apply below_alloc | apply pw_below_drewN | apply below_drew1 | refine below_set ?_ GE340.out | refine below_set ?_ GE351.out) | exact HB.out)⟩⟩
                  ·
                   rw [if_neg c34] at H
                   exact absurd H (by simp)
                 ·
                  rw [if_neg c33] at H
                  exact absurd H (by simp)
                ·
                 rw [if_neg c32] at H
                 exact absurd H (by simp)
               ·
                rw [if_neg c31] at H
                exact absurd H (by simp)
              ·
               rw [if_neg c30] at H
               exact absurd H (by simp)
             ·
              rw [if_neg c29] at H
              exact absurd H (by simp)
            ·
             rw [if_neg c28] at H
             exact absurd H (by simp)
           ·
            replace c27 := Bool.eq_false_iff.mpr c27
            subst c27
            have H1 : (offertorylaw25_IdealSum.l1 k3 l0 a3 x11_2 x12_3 x13_3 (wrap64 (x14_3 + 1)) t341 t344 t347) = some r := by rw [if_neg (show ¬ (false = true) by decide)] at H; exact H
            clear H
            have H := H1
            clear H1
            have H' := Aside0.mk H
            clear H
            go_wp2_with (first | (go_at_call 14; (with_reducible refine (offertorylaw25_in.calls a3 x14_3 false _ A26.out).mono ?_); rintro e w' ⟨rfl, ⟨nd, rfl⟩⟩; (try first | exact ⟨rfl, _, World.drewN_drewN _ _ _⟩ | exact ⟨rfl, _, Eq.trans (World.drewN_drewN _ _ _) (congrArg (World.drewN _) (Nat.add_assoc _ _ _))⟩)))
            repeat (go_quiet (first | (go_at_call 14; (with_reducible refine (offertorylaw25_in.calls a3 x14_3 false _ A26.out).mono ?_); rintro e w' ⟨rfl, ⟨nd, rfl⟩⟩; (try first | exact ⟨rfl, _, World.drewN_drewN _ _ _⟩ | exact ⟨rfl, _, Eq.trans (World.drewN_drewN _ _ _) (congrArg (World.drewN _) (Nat.add_assoc _ _ _))⟩))); try go_wp2_with (first | (go_at_call 14; (with_reducible refine (offertorylaw25_in.calls a3 x14_3 false _ A26.out).mono ?_); rintro e w' ⟨rfl, ⟨nd, rfl⟩⟩; (try first | exact ⟨rfl, _, World.drewN_drewN _ _ _⟩ | exact ⟨rfl, _, Eq.trans (World.drewN_drewN _ _ _) (congrArg (World.drewN _) (Nat.add_assoc _ _ _))⟩))))
            go_roundg k3
            case measure => have := HJ5.out; have := HK2.out; have := HK3.out; omega
            case rel => exact ⟨(x12_3), (x13_3), (wrap64 (x14_3 + 1)), (by first | rfl | (simp; done) | (simp [*]; done)), (by first | rfl | (simp; done) | (simp [*]; done)), (by first | rfl | (simp; done) | (simp [*]; done)), H', ⟨by have := HJ5.out; have := HK2.out; have := HK3.out; omega⟩, ⟨by (with_reducible repeat (first | apply Kd.R_alloc | apply Kd.R_drewN | apply Kd.R_drew)); exact HO_352000.out⟩, ⟨by (with_reducible repeat (first | apply Kd.R_alloc | apply Kd.R_drewN | apply Kd.R_drew)); exact HO_352001.out⟩, ⟨by (with_reducible repeat (first | apply Kd.R_alloc | apply Kd.R_drewN | apply Kd.R_drew)); exact HO_352002.out⟩, ⟨by (with_reducible repeat (first | refine blk_drewN ?_ _ | refine blk_drew ?_ | refine blk_alloc ?_ _)); exact BK340.out⟩, ⟨by (with_reducible repeat (first | refine blk_drewN ?_ _ | refine blk_drew ?_ | refine blk_alloc ?_ _)); exact BK351.out⟩, ⟨by repeat (first | (with_reducible first | exact HB.out | apply below_alloc | apply pw_below_drewN | apply below_drew1 | refine below_set ?_ GE340.out | refine below_set ?_ GE351.out) | exact HB.out)⟩⟩
          ·
           rw [if_neg c25] at H
           have c25b0 : decide (x14_3 < (l0.length : Int)) = false := decide_eq_false c25
           clear c25
           by_cases c76 : x12_3 = x13_3
           ·
            rw [if_pos c76] at H
            have c76b0 : (x12_3 == x13_3) = true := beq_iff_eq.mpr c76
            have c76b1 : (x12_3 != x13_3) = false := bne_eq_false_iff_eq.mpr c76
            clear c76
            have H' := Aside0.mk H
            clear H
            go_wp2
            repeat (go_quiet (fail); try go_wp2)
            go_roundg k3
            case measure => have := HJ5.out; have := HK2.out; have := HK3.out; omega
            case rel => exact ⟨(wrap64 (x11_2 + 1)), (by first | rfl | (simp; done) | (simp [*]; done)), H', ⟨by have := HJ5.out; have := HK2.out; have := HK3.out; omega⟩, ⟨by (with_reducible repeat (first | apply Kd.R_alloc | apply Kd.R_drewN | apply Kd.R_drew)); exact HO_352000.out⟩, ⟨by (with_reducible repeat (first | apply Kd.R_alloc | apply Kd.R_drewN | apply Kd.R_drew)); exact HO_352001.out⟩, ⟨by (with_reducible repeat (first | apply Kd.R_alloc | apply Kd.R_drewN | apply Kd.R_drew)); exact HO_352002.out⟩, ⟨by (with_reducible repeat (first | refine blk_drewN ?_ _ | refine blk_drew ?_ | refine blk_alloc ?_ _)); exact BK340.out⟩, ⟨by (with_reducible repeat (first | refine blk_drewN ?_ _ | refine blk_drew ?_ | refine blk_alloc ?_ _)); exact BK351.out⟩, ⟨by repeat (first | (with_reducible first | exact HB.out | apply below_alloc | apply pw_below_drewN | apply below_drew1 | refine below_set ?_ GE340.out | refine below_set ?_ GE351.out) | exact HB.out)⟩⟩
           ·
            rw [if_neg c76] at H
            exact absurd H (by simp)
       ·
        rw [if_neg c24] at H
        have c24b0 : decide (x11_2 < ((rd_L1 l0 0).length : Int)) = false := decide_eq_false c24
        clear c24
        obtain rfl := Option.some.inj H
        have p354 : 0 ≤ (0 : Int) := (by omega)
        have q354 : 0 < (l0.length : Int) := of_decide_eq_true (by first | (with_reducible assumption) | assumption)
        obtain ⟨ad354, A354_0, c354_0, e354, hx354_0, hl354_0, hi354_0⟩ := at_L1 HR0.out 0 p354 q354
        cases e354
        have qi354 : (0 < l0.length) = True := eq_true (by omega)
        (try rw [show ((0 : Int)).toNat = 0 from rfl] at hx354_0)
        (try rw [Addr.add_zero'] at hx354_0)
        replace hx354_0 := (HB.out.cell (World.block_lt_of_cell? w _ hx354_0)).trans hx354_0
        have HR354_0 := Aside0.mk hi354_0
        have HC354_0 := Aside0.mk hl354_0
        clear hi354_0 hl354_0
        replace p354 := eq_true p354
        replace q354 := eq_true q354
        go_wp2
        repeat (go_quiet (fail); try go_wp2)
        go_ret
        exact ⟨by first | rfl | (simp [errW_none, errW_some] <;> rfl) | (simp [*, errW_none, errW_some] <;> rfl), by repeat (first | (with_reducible first | exact HB.out | apply below_alloc | apply pw_below_drewN | apply below_drew1 | refine below_set ?_ GE340.out | refine below_set ?_ GE351.out) | exact HB.out)⟩
      ·
       rw [if_neg c23] at H
       exact absurd H (by simp)

end Go.Proofs.YtpicmnkkkgedeaaDoor.PAll
