/- The Go functions that the laws reach, as Lean functions, and that each call comes to what its function says. Written by a program of this session (a turned copy of the kit's print). No condition beyond those that each theorem states. -/
import Derived.Test.YtpicmnkkkgedeaaDoorPAllx0
import Derived.Test.YtpicmnkkkgedeaaDoorPAllx3
import Derived.Test.YtpicmnkkkgedeaaDoorPAllx7
import Derived.Test.YtpicmnkkkgedeaaDoorPAllx8
import Derived.Test.YtpicmnkkkgedeaaDoorPAllx10
import Derived.Test.YtpicmnkkkgedeaaDoorPAllx11
import Derived.Test.YtpicmnkkkgedeaaDoorPAllx12
import Derived.Test.YtpicmnkkkgedeaaDoorPAllx14
import Derived.Test.YtpicmnkkkgedeaaDoorPAllx15
namespace Go.Proofs.YtpicmnkkkgedeaaDoor.PAll
open Go.RowKit Go.Proofs.YtpicmnkkkgedeaaDoorW.PrintWords Go.Proofs.YtpicmnkkkgedeaaDoorW.PrintLast Go.Proofs.YtpicmnkkkgedeaaDoorW.PrintMore
attribute [local go_sem] max2_int min2_int max_two min_two max_three min_three max_four min_four   -- for this text's walks alone
set_option linter.unusedVariables false
set_option linter.unusedSimpArgs false

theorem offertorylaw25_IdealHides.keepB {W0 W w1 : World} {g : Nat} {o : Obj} (h : Aside0 (W0.heap[g]? = some o)) (hb : Below W.heap.size W w1) (hs : W0.heap[g]? = some o → W.heap[g]? = some o := by intro h_; (with_reducible repeat (first | refine blk_drewN ?_ _ | refine blk_drew ?_ | refine blk_alloc ?_ _)); exact h_) : Aside0 (w1.heap[g]? = some o) := ⟨(hb.block g (blk_lt (hs h.out))).trans (hs h.out)⟩
theorem offertorylaw25_IdealHides.neL {W0 W : World} {g gb : Nat} {o : Obj} (h : Aside0 (W0.heap[g]? = some o)) (hg : gb = W.heap.size) (hs : W0.heap[g]? = some o → W.heap[g]? = some o := by intro h_; (with_reducible repeat (first | refine blk_drewN ?_ _ | refine blk_drew ?_ | refine blk_alloc ?_ _)); exact h_) : Aside0 (g ≠ gb) := ⟨by rw [hg]; exact Nat.ne_of_lt (blk_lt (hs h.out))⟩
theorem offertorylaw25_IdealHides.neG {W0 W : World} {g gb : Nat} {o : Obj} (h : Aside0 (W0.heap[g]? = some o)) (hg : gb = W.heap.size) (hs : W0.heap[g]? = some o → W.heap[g]? = some o := by intro h_; (with_reducible repeat (first | refine blk_drewN ?_ _ | refine blk_drew ?_ | refine blk_alloc ?_ _)); exact h_) : Aside0 (gb ≠ g) := ⟨by rw [hg]; exact Nat.ne_of_gt (blk_lt (hs h.out))⟩
/-! ### offertorylaw25_IdealHides: function 5 -/
mutual
def offertorylaw25_IdealHides.j0 : Nat → List (List Int) → List (List Int) → Int → Int → Int → Int → List (List Int) → List (List (List Int)) → List (List Int) → List (List (List Int)) → Option (Bool)
 | 0, _, _, _, _, _, _, _, _, _, _ => none
 | k + 1, x0, x1, x3, x4, x12, x13, x263000, x263001, x271000, x271001 => if x13 = 0 then (offertorylaw25_IdealHides.l0 k x0 x1 x3 x4 x12 true 0 x263000 x263001 x271000 x271001) else ((offertorylaw25_awake.f).bind fun t273 => (if t273 = true then (if x12 = x13 then ((offertorylaw25_alike.f k x271000 x271001 ([] : List (List Int)) ([] : List (List (List Int)))).bind fun t274 => (some t274)) else (none)) else (none)))
def offertorylaw25_IdealHides.l0 : Nat → List (List Int) → List (List Int) → Int → Int → Int → Bool → Int → List (List Int) → List (List (List Int)) → List (List Int) → List (List (List Int)) → Option (Bool)
 | 0, _, _, _, _, _, _, _, _, _, _, _ => none
 | k + 1, x0, x1, x3, x4, x12, x14, x15, x263000, x263001, x271000, x271001 => if 0 < (x0.length : Int) then (if x15 < ((rd_L1 x0 0).length : Int) then (offertorylaw25_IdealHides.l1 k x0 x1 x3 x4 x12 x14 x15 0 0 x263000 x263001 x271000 x271001) else (if x14 = true then ((ideal_See.f k x0 x263000 x263001 x3 x4).bind fun bt283 => ((ideal_See.f k x1 x271000 x271001 x3 x4).bind fun bt294 => ((offertorylaw25_awake.f).bind fun t305 => (if t305 = true then (if x12 = 0 then (if bt283.2.2.2 = 0 then (if bt294.2.2.2 = 0 then ((offertorylaw25_sound.f k x271000 x271001 (x0.length : Int) ((rd_L1 x0 0).length : Int)).bind fun t307 => (if t307 = true then ((ideal_Same.f k bt283.1 bt283.2.1 bt283.2.2.1 bt294.1 bt294.2.1 bt294.2.2.1).bind fun t308 => (some t308)) else (none))) else (none)) else (none)) else (none)) else (none))))) else ((offertorylaw25_awake.f).bind fun t281 => (if t281 = true then (if x12 = 11 then ((offertorylaw25_alike.f k x271000 x271001 ([] : List (List Int)) ([] : List (List (List Int)))).bind fun t282 => (some t282)) else (none)) else (none))))) else (none)
def offertorylaw25_IdealHides.l1 : Nat → List (List Int) → List (List Int) → Int → Int → Int → Bool → Int → Int → Int → List (List Int) → List (List (List Int)) → List (List Int) → List (List (List Int)) → Option (Bool)
 | 0, _, _, _, _, _, _, _, _, _, _, _, _, _ => none
 | k + 1, x0, x1, x3, x4, x12, x14, x15, x16, x17, x263000, x263001, x271000, x271001 => if x17 < (x0.length : Int) then ((offertorylaw25_in.f x4 x17).bind fun t276 => (if t276 = true then (if 0 ≤ x17 then (if 0 ≤ x15 then (if x15 < ((rd_L1 x0 x17).length : Int) then (if x17 < (x1.length : Int) then (if x15 < ((rd_L1 x1 x17).length : Int) then (offertorylaw25_IdealHides.l1 k x0 x1 x3 x4 x12 x14 x15 ((x16 + (((rd (rd_L1 x0 x17) x15) - (rd (rd_L1 x1 x17) x15)) % 4294967296)) % 4294967296) (wrap64 (x17 + 1)) x263000 x263001 x271000 x271001) else (none)) else (none)) else (none)) else (none)) else (none)) else (offertorylaw25_IdealHides.l1 k x0 x1 x3 x4 x12 x14 x15 x16 (wrap64 (x17 + 1)) x263000 x263001 x271000 x271001))) else (if x14 = true then (offertorylaw25_IdealHides.l0 k x0 x1 x3 x4 x12 (x16 == 0) (wrap64 (x15 + 1)) x263000 x263001 x271000 x271001) else (offertorylaw25_IdealHides.l0 k x0 x1 x3 x4 x12 false (wrap64 (x15 + 1)) x263000 x263001 x271000 x271001))
end
def offertorylaw25_IdealHides.f (k : Nat) (l0 : List (List Int)) (l1 : List (List Int)) (l2_0 : List (List Int)) (l2_1 : List (List (List Int))) (a3 : Int) (a4 : Int) : Option (Bool) := (ideal_Turn.f k l0 l1 l2_0 l2_1 a3 a4).bind fun bt263 => ((offertorylaw25_check.f k l0 l2_0 l2_1 a3 a4).bind fun t271 => (if t271 = 0 then ((offertorylaw25_check.f k l1 l2_0 l2_1 a3 a4).bind fun t272 => (offertorylaw25_IdealHides.j0 k l0 l1 a3 a4 bt263.2.2 t272 l2_0 l2_1 bt263.1 bt263.2.1)) else (offertorylaw25_IdealHides.j0 k l0 l1 a3 a4 bt263.2.2 t271 l2_0 l2_1 bt263.1 bt263.2.1)))
theorem offertorylaw25_IdealHides.mono_l : ∀ k, (∀ y0 y1 y2 y3 y4 y5 y6 y7 y8 y9, LeO (offertorylaw25_IdealHides.j0 k y0 y1 y2 y3 y4 y5 y6 y7 y8 y9) (offertorylaw25_IdealHides.j0 (k + 1) y0 y1 y2 y3 y4 y5 y6 y7 y8 y9)) ∧ (∀ y0 y1 y2 y3 y4 y5 y6 y7 y8 y9 y10, LeO (offertorylaw25_IdealHides.l0 k y0 y1 y2 y3 y4 y5 y6 y7 y8 y9 y10) (offertorylaw25_IdealHides.l0 (k + 1) y0 y1 y2 y3 y4 y5 y6 y7 y8 y9 y10)) ∧ (∀ y0 y1 y2 y3 y4 y5 y6 y7 y8 y9 y10 y11 y12, LeO (offertorylaw25_IdealHides.l1 k y0 y1 y2 y3 y4 y5 y6 y7 y8 y9 y10 y11 y12) (offertorylaw25_IdealHides.l1 (k + 1) y0 y1 y2 y3 y4 y5 y6 y7 y8 y9 y10 y11 y12))
 | 0 => ⟨fun _ _ _ _ _ _ _ _ _ _ r h => by simp [offertorylaw25_IdealHides.j0] at h, fun _ _ _ _ _ _ _ _ _ _ _ r h => by simp [offertorylaw25_IdealHides.l0] at h, fun _ _ _ _ _ _ _ _ _ _ _ _ _ r h => by simp [offertorylaw25_IdealHides.l1] at h⟩
 | k + 1 => by
  obtain ⟨ih0, ih1, ih2⟩ := offertorylaw25_IdealHides.mono_l k
  refine ⟨?_, ?_, ?_⟩
  ·
   intro y0 y1 y2 y3 y4 y5 y6 y7 y8 y9
   unfold offertorylaw25_IdealHides.j0
   repeat' first
   | (with_reducible exact ih0 _ _ _ _ _ _ _ _ _ _)
   | (with_reducible exact ih1 _ _ _ _ _ _ _ _ _ _ _)
   | (with_reducible exact ih2 _ _ _ _ _ _ _ _ _ _ _ _ _)
   | (with_reducible exact ideal_Same.mono _ _ _ _ _ _ _)
   | (with_reducible exact ideal_See.mono _ _ _ _ _ _)
   | (with_reducible exact ideal_Turn.mono _ _ _ _ _ _ _)
   | (with_reducible exact offertorylaw25_alike.mono _ _ _ _ _)
   | (with_reducible exact offertorylaw25_check.mono _ _ _ _ _ _)
   | (with_reducible exact offertorylaw25_sound.mono _ _ _ _ _)
   | (with_reducible exact LeO.refl _)
   | (with_reducible exact LeO.none _)
   | (with_reducible refine LeO.ite ?_ ?_)
   | (with_reducible refine LeO.bind ?_ (fun _ => ?_))
   | exact ih0 _ _ _ _ _ _ _ _ _ _
   | exact ih1 _ _ _ _ _ _ _ _ _ _ _
   | exact ih2 _ _ _ _ _ _ _ _ _ _ _ _ _
   | exact ideal_Same.mono _ _ _ _ _ _ _
   | exact ideal_See.mono _ _ _ _ _ _
   | exact ideal_Turn.mono _ _ _ _ _ _ _
   | exact offertorylaw25_alike.mono _ _ _ _ _
   | exact offertorylaw25_check.mono _ _ _ _ _ _
   | exact offertorylaw25_sound.mono _ _ _ _ _
   | exact LeO.none _
   | refine LeO.ite ?_ ?_
   | refine LeO.bind ?_ (fun _ => ?_)
  ·
   intro y0 y1 y2 y3 y4 y5 y6 y7 y8 y9 y10
   unfold offertorylaw25_IdealHides.l0
   repeat' first
   | (with_reducible exact ih0 _ _ _ _ _ _ _ _ _ _)
   | (with_reducible exact ih1 _ _ _ _ _ _ _ _ _ _ _)
   | (with_reducible exact ih2 _ _ _ _ _ _ _ _ _ _ _ _ _)
   | (with_reducible exact ideal_Same.mono _ _ _ _ _ _ _)
   | (with_reducible exact ideal_See.mono _ _ _ _ _ _)
   | (with_reducible exact ideal_Turn.mono _ _ _ _ _ _ _)
   | (with_reducible exact offertorylaw25_alike.mono _ _ _ _ _)
   | (with_reducible exact offertorylaw25_check.mono _ _ _ _ _ _)
   | (with_reducible exact offertorylaw25_sound.mono _ _ _ _ _)
   | (with_reducible exact LeO.refl _)
   | (with_reducible exact LeO.none _)
   | (with_reducible refine LeO.ite ?_ ?_)
   | (with_reducible refine LeO.bind ?_ (fun _ => ?_))
   | exact ih0 _ _ _ _ _ _ _ _ _ _
   | exact ih1 _ _ _ _ _ _ _ _ _ _ _
   | exact ih2 _ _ _ _ _ _ _ _ _ _ _ _ _
   | exact ideal_Same.mono _ _ _ _ _ _ _
   | exact ideal_See.mono _ _ _ _ _ _
   | exact ideal_Turn.mono _ _ _ _ _ _ _
   | exact offertorylaw25_alike.mono _ _ _ _ _
   | exact offertorylaw25_check.mono _ _ _ _ _ _
   | exact offertorylaw25_sound.mono _ _ _ _ _
   | exact LeO.none _
   | refine LeO.ite ?_ ?_
   | refine LeO.bind ?_ (fun _ => ?_)
  ·
   intro y0 y1 y2 y3 y4 y5 y6 y7 y8 y9 y10 y11 y12
   unfold offertorylaw25_IdealHides.l1
   repeat' first
   | (with_reducible exact ih0 _ _ _ _ _ _ _ _ _ _)
   | (with_reducible exact ih1 _ _ _ _ _ _ _ _ _ _ _)
   | (with_reducible exact ih2 _ _ _ _ _ _ _ _ _ _ _ _ _)
   | (with_reducible exact ideal_Same.mono _ _ _ _ _ _ _)
   | (with_reducible exact ideal_See.mono _ _ _ _ _ _)
   | (with_reducible exact ideal_Turn.mono _ _ _ _ _ _ _)
   | (with_reducible exact offertorylaw25_alike.mono _ _ _ _ _)
   | (with_reducible exact offertorylaw25_check.mono _ _ _ _ _ _)
   | (with_reducible exact offertorylaw25_sound.mono _ _ _ _ _)
   | (with_reducible exact LeO.refl _)
   | (with_reducible exact LeO.none _)
   | (with_reducible refine LeO.ite ?_ ?_)
   | (with_reducible refine LeO.bind ?_ (fun _ => ?_))
   | exact ih0 _ _ _ _ _ _ _ _ _ _
   | exact ih1 _ _ _ _ _ _ _ _ _ _ _
   | exact ih2 _ _ _ _ _ _ _ _ _ _ _ _ _
   | exact ideal_Same.mono _ _ _ _ _ _ _
   | exact ideal_See.mono _ _ _ _ _ _
   | exact ideal_Turn.mono _ _ _ _ _ _ _
   | exact offertorylaw25_alike.mono _ _ _ _ _
   | exact offertorylaw25_check.mono _ _ _ _ _ _
   | exact offertorylaw25_sound.mono _ _ _ _ _
   | exact LeO.none _
   | refine LeO.ite ?_ ?_
   | refine LeO.bind ?_ (fun _ => ?_)
theorem offertorylaw25_IdealHides.mono : ∀ a0 a1 a2 a3 a4 a5 k, LeO (offertorylaw25_IdealHides.f k a0 a1 a2 a3 a4 a5) (offertorylaw25_IdealHides.f (k + 1) a0 a1 a2 a3 a4 a5) := by
 intro a0 a1 a2 a3 a4 a5 k
 obtain ⟨ih0, ih1, ih2⟩ := offertorylaw25_IdealHides.mono_l k
 unfold offertorylaw25_IdealHides.f
 repeat' first
   | (with_reducible exact ih0 _ _ _ _ _ _ _ _ _ _)
   | (with_reducible exact ih1 _ _ _ _ _ _ _ _ _ _ _)
   | (with_reducible exact ih2 _ _ _ _ _ _ _ _ _ _ _ _ _)
   | (with_reducible exact ideal_Same.mono _ _ _ _ _ _ _)
   | (with_reducible exact ideal_See.mono _ _ _ _ _ _)
   | (with_reducible exact ideal_Turn.mono _ _ _ _ _ _ _)
   | (with_reducible exact offertorylaw25_alike.mono _ _ _ _ _)
   | (with_reducible exact offertorylaw25_check.mono _ _ _ _ _ _)
   | (with_reducible exact offertorylaw25_sound.mono _ _ _ _ _)
   | (with_reducible exact LeO.refl _)
   | (with_reducible exact LeO.none _)
   | (with_reducible refine LeO.ite ?_ ?_)
   | (with_reducible refine LeO.bind ?_ (fun _ => ?_))
   | exact ih0 _ _ _ _ _ _ _ _ _ _
   | exact ih1 _ _ _ _ _ _ _ _ _ _ _
   | exact ih2 _ _ _ _ _ _ _ _ _ _ _ _ _
   | exact ideal_Same.mono _ _ _ _ _ _ _
   | exact ideal_See.mono _ _ _ _ _ _
   | exact ideal_Turn.mono _ _ _ _ _ _ _
   | exact offertorylaw25_alike.mono _ _ _ _ _
   | exact offertorylaw25_check.mono _ _ _ _ _ _
   | exact offertorylaw25_sound.mono _ _ _ _ _
   | exact LeO.none _
   | refine LeO.ite ?_ ?_
   | refine LeO.bind ?_ (fun _ => ?_)
def offertorylaw25_IdealHides.T16 : Bool × List (List Nat × List Nat) := (true, [([], []), ([], []), ([], []), ([1, 2], [1, 2]), ([3], [3]), ([], []), ([4, 5], [4, 5]), ([6], [6]), ([], []), ([], []), ([8, 9], [8, 9]), ([10], [10]), ([], []), ([11, 12], [11, 12]), ([13], [13]), ([7, 14], [7, 14]), ([0, 15], [0, 15]), ([16, 0, 1, 2, 3, 4, 5, 6, 7, 8, 9, 10, 11, 12, 13, 14, 15, 16], [0, 16])])
def offertorylaw25_IdealHides.B16 : List Nat := [0, 0, 0, 6, 14, 0, 62, 126, 0, 0, 768, 1792, 0, 7936, 16128, 32766, 65535, 131071]
theorem offertorylaw25_IdealHides.tab16 : rtab .any (opsOf Tryd.f5 16) = offertorylaw25_IdealHides.T16 := by kernel_rfl
theorem offertorylaw25_IdealHides.bits16 : waitsOk offertorylaw25_IdealHides.T16.2 offertorylaw25_IdealHides.B16 = true := by kernel_rfl
def offertorylaw25_IdealHides.T22 : Bool × List (List Nat × List Nat) := (true, [([], []), ([0, 0], [0]), ([1], [1]), ([2, 1], [1, 2]), ([1, 3], [1, 3]), ([4, 1], [4]), ([5], [5]), ([6, 5], [5, 6]), ([5, 7], [5, 7]), ([8, 5], [8]), ([9], [9]), ([10, 9], [9, 10]), ([9, 11], [9, 11]), ([12, 9], [12]), ([13], [13]), ([13], [13]), ([15, 13], [13, 15]), ([13], [13]), ([17, 13], [13, 17]), ([18, 13], [13, 18]), ([19, 13], [13, 19]), ([14, 16, 20, 13, 13], [13, 14, 16, 20]), ([13, 21], [13, 21]), ([22, 21], [22]), ([23], [23]), ([23], [23]), ([24, 25, 23, 23], [23, 24, 25]), ([23, 26], [23, 26]), ([27, 26, 0, 1, 2, 3, 4, 5, 6, 7, 8, 9, 10, 11, 12, 13, 14, 15, 16, 17, 18, 19, 20, 21, 22, 23, 24, 25, 26, 27], [27])])
def offertorylaw25_IdealHides.B22 : List Nat := [0, 1, 3, 7, 15, 31, 63, 127, 255, 511, 1023, 2047, 4095, 8191, 16383, 16383, 49151, 16383, 147455, 409599, 933887, 2097151, 4194303, 8388607, 16777215, 16777215, 67108863, 134217727, 268435455]
theorem offertorylaw25_IdealHides.tab22 : rtab .any (opsOf Tryd.f5 22) = offertorylaw25_IdealHides.T22 := by kernel_rfl
theorem offertorylaw25_IdealHides.bits22 : waitsOk offertorylaw25_IdealHides.T22.2 offertorylaw25_IdealHides.B22 = true := by kernel_rfl
set_option maxHeartbeats 8000000 in
set_option maxRecDepth 100000 in
theorem offertorylaw25_IdealHides.calls (k : Nat) (A0 : Option Addr) (c0 : Nat) (l0 : List (List Int)) (A1 : Option Addr) (c1 : Nat) (l1 : List (List Int)) (A2_0 : Option Addr) (c2_0 : Nat) (l2_0 : List (List Int)) (A2_1 : Option Addr) (c2_1 : Nat) (l2_1 : List (List (List Int))) (a3 : Int) (a4 : Int) (r : Bool) (w : World) (hr0 : Kd.C (Kd.slice 37 (Kd.int .u32)) w A0 l0.length l0) (hc0 : l0.length ≤ c0) (hr1 : Kd.C (Kd.slice 37 (Kd.int .u32)) w A1 l1.length l1) (hc1 : l1.length ≤ c1) (hr2_0 : Kd.C (Kd.slice 37 (Kd.int .u32)) w A2_0 l2_0.length l2_0) (hc2_0 : l2_0.length ≤ c2_0) (hr2_1 : Kd.C (Kd.slice 35 (Kd.slice 37 (Kd.int .u32))) w A2_1 l2_1.length l2_1) (hc2_1 : l2_1.length ≤ c2_1) (hT : Tab w) (h : offertorylaw25_IdealHides.f k l0 l1 l2_0 l2_1 a3 a4 = some r) :
  Calls Tryd.prog 5 #[.slice A0 l0.length c0, .slice A1 l1.length c1, .agg #[.slice A2_0 l2_0.length c2_0, .slice A2_1 l2_1.length c2_1], .int .u64 a3, .int .u64 a4] w fun e w' => e = .returned (.bool r) ∧ Below w.heap.size w w' := by
 have hu25 := Tryd.underlying25
 have hu30 := Tryd.underlying30
 have HR0 := Aside0.mk hr0
 have HC0 := Aside0.mk hc0
 clear hr0 hc0
 have HR1 := Aside0.mk hr1
 have HC1 := Aside0.mk hc1
 clear hr1 hc1
 have HR2_0 := Aside0.mk hr2_0
 have HC2_0 := Aside0.mk hc2_0
 clear hr2_0 hc2_0
 have HR2_1 := Aside0.mk hr2_1
 have HC2_1 := Aside0.mk hc2_1
 clear hr2_1 hc2_1
 have HTab := Aside0.mk hT
 clear hT
 have HB := Aside0.mk (Below.refl w.heap.size w)
 have H : ((ideal_Turn.f k l0 l1 l2_0 l2_1 a3 a4).bind fun bt263 => ((offertorylaw25_check.f k l0 l2_0 l2_1 a3 a4).bind fun t271 => (if t271 = 0 then ((offertorylaw25_check.f k l1 l2_0 l2_1 a3 a4).bind fun t272 => (offertorylaw25_IdealHides.j0 k l0 l1 a3 a4 bt263.2.2 t272 l2_0 l2_1 bt263.1 bt263.2.1)) else (offertorylaw25_IdealHides.j0 k l0 l1 a3 a4 bt263.2.2 t271 l2_0 l2_1 bt263.1 bt263.2.1)))) = some r := h
 clear h
 replace H := Option.bind_eq_some_iff.mp H
 obtain ⟨⟨t263, t266, t269⟩, A60, H⟩ := H
 replace H : ((offertorylaw25_check.f k l0 l2_0 l2_1 a3 a4).bind fun t271 => (if t271 = 0 then ((offertorylaw25_check.f k l1 l2_0 l2_1 a3 a4).bind fun t272 => (offertorylaw25_IdealHides.j0 k l0 l1 a3 a4 t269 t272 l2_0 l2_1 t263 t266)) else (offertorylaw25_IdealHides.j0 k l0 l1 a3 a4 t269 t271 l2_0 l2_1 t263 t266))) = some r := H
 have A6 := Aside0.mk A60
 clear A60
 replace H := Option.bind_eq_some_iff.mp H
 obtain ⟨t271, A70, H⟩ := H
 replace H : (if t271 = 0 then ((offertorylaw25_check.f k l1 l2_0 l2_1 a3 a4).bind fun t272 => (offertorylaw25_IdealHides.j0 k l0 l1 a3 a4 t269 t272 l2_0 l2_1 t263 t266)) else (offertorylaw25_IdealHides.j0 k l0 l1 a3 a4 t269 t271 l2_0 l2_1 t263 t266)) = some r := H
 have A7 := Aside0.mk A70
 clear A70
 have HC8 := Aside0.mk H
 clear H
 go_enter Tryd.func5, Tryd.ntmps5
 go_upto_if 37 with (first | ((with_reducible refine gate_dst (N := 7) rfl ?_); (try (refine gate_guard (by rfl) ?_; dsimp only)); refine box_event ?hg (N := 7) ?hd (cs := #[.slice A2_0 l2_0.length c2_0, .slice A2_1 l2_1.length c2_1]) (t := 25) ?hr ?_; (case hd => rfl); (case hg => rfl); (case hr => first | (go_simp; done) | (go_simp; rfl)); intro gb262 hg w9 hbox hb; have n0_ := Aside0.mk (below_step (by repeat (first | (with_reducible first | exact HB.out | apply below_alloc | apply pw_below_drewN | apply below_drew1) | exact HB.out)) hb); have n1_ := Aside0.mk (hbox); have n2_ := Aside0.mk ((by rw [hg]; exact (below_size (by repeat (first | (with_reducible first | exact HB.out | apply below_alloc | apply pw_below_drewN | apply below_drew1) | exact HB.out))) : w.heap.size ≤ gb262)); have n3_ := Aside0.mk ((by rw [hg]; exact (below_size (by repeat (first | (with_reducible first | exact HB.out | apply below_alloc | apply pw_below_drewN | apply below_drew1) | exact HB.out))) : w.heap.size ≤ gb262)); clear HB; have HB := n0_; have BK262 := n1_; have GW262 := n2_; have GE262 := n3_; clear n0_ n1_ n2_ n3_; clear hb hbox hg; have hcz10_0 : w9.cell? ⟨gb262, 0, none⟩ = some (.slice A2_0 l2_0.length c2_0) := (blk_cell BK262.out 0).trans rfl; have hcz10_1 : w9.cell? ⟨gb262, 1, none⟩ = some (.slice A2_1 l2_1.length c2_1) := (blk_cell BK262.out 1).trans rfl; have hfz10_0 := blk_frozen BK262.out 0; have hfz10_1 := blk_frozen BK262.out 1) | ((with_reducible refine gate_callee (f := 16) rfl ?_); refine goesL_ (some 28) rfl rfl Tryd.func16 (by kernel_rfl) rfl #[.slice A0 l0.length c0, .slice A1 l1.length c1, .agg #[.slice A2_0 l2_0.length c2_0, .slice A2_1 l2_1.length c2_1], .int .u64 a3, .int .u64 a4] rfl (by (try simp only [List.map_toArray, List.map_cons, List.map_nil]); first | done | rfl | (simp only [List.length_drop, List.length_take]; rfl)) ?_; (with_reducible refine (ideal_Turn.calls k _ _ l0 _ _ l1 _ _ l2_0 _ _ l2_1 a3 a4 t263 t266 t269 _ ?side1 ?side2 ?side3 ?side4 ?side5 ?side6 ?side7 ?side8 A6.out).mono ?_); (case side1 => repeat (first | exact (Kd.C_below HR0.out HB.out) | (with_reducible refine Kd.C_alloc ?_ _) | (with_reducible refine Kd.C_drewN ?_ _) | (with_reducible refine Kd.C_drew ?_))); (case side2 => exact HC0.out); (case side3 => repeat (first | exact (Kd.C_below HR1.out HB.out) | (with_reducible refine Kd.C_alloc ?_ _) | (with_reducible refine Kd.C_drewN ?_ _) | (with_reducible refine Kd.C_drew ?_))); (case side4 => exact HC1.out); (case side5 => repeat (first | exact (Kd.C_below HR2_0.out HB.out) | (with_reducible refine Kd.C_alloc ?_ _) | (with_reducible refine Kd.C_drewN ?_ _) | (with_reducible refine Kd.C_drew ?_))); (case side6 => exact HC2_0.out); (case side7 => repeat (first | exact (Kd.C_below HR2_1.out HB.out) | (with_reducible refine Kd.C_alloc ?_ _) | (with_reducible refine Kd.C_drewN ?_ _) | (with_reducible refine Kd.C_drew ?_))); (case side8 => exact HC2_1.out); rintro e w11 ⟨v264, v267, rfl, ho0, ho1, hb⟩; refine ⟨_, rfl, ?_⟩; have n0_ := Aside0.mk (Kd.R_lower ho0 (below_size (by repeat (first | (with_reducible first | exact HB.out | apply below_alloc | apply pw_below_drewN | apply below_drew1 | refine below_set ?_ GE262.out) | exact HB.out)))); have n1_ := Aside0.mk (Kd.R_lower ho1 (below_size (by repeat (first | (with_reducible first | exact HB.out | apply below_alloc | apply pw_below_drewN | apply below_drew1 | refine below_set ?_ GE262.out) | exact HB.out)))); have n2_ := offertorylaw25_IdealHides.keepB BK262 hb; have n3_ := Aside0.mk (below_step (by repeat (first | (with_reducible first | exact HB.out | apply below_alloc | apply pw_below_drewN | apply below_drew1 | refine below_set ?_ GE262.out) | exact HB.out)) hb); clear BK262; clear HB; have HO265 := n0_; have HO268 := n1_; have BK262 := n2_; have HB := n3_; clear n0_ n1_ n2_ n3_; (try clear hb); (try clear hb2); (try clear hk); (try clear hi); (try clear ho0); (try clear ho1)) | ((with_reducible refine gate_dst (N := 11) rfl ?_); (try (refine gate_guard (by rfl) ?_; dsimp only)); refine box_event ?hg (N := 11) ?hd (cs := #[.slice none 0 0, .slice none 0 0]) (t := 25) ?hr ?_; (case hd => rfl); (case hg => rfl); (case hr => first | (go_simp; done) | (go_simp; rfl)); intro gb270 hg w12 hbox hb; have n0_ := Aside0.mk (Kd.R_below (by (with_reducible repeat (first | apply Kd.R_alloc | apply Kd.R_drewN | apply Kd.R_drew)); exact HO265.out) hb); have n1_ := Aside0.mk (Kd.R_below (by (with_reducible repeat (first | apply Kd.R_alloc | apply Kd.R_drewN | apply Kd.R_drew)); exact HO268.out) hb); have n2_ := offertorylaw25_IdealHides.keepB BK262 hb; have n3_ := Aside0.mk (below_step (by repeat (first | (with_reducible first | exact HB.out | apply below_alloc | apply pw_below_drewN | apply below_drew1 | refine below_set ?_ GE262.out) | exact HB.out)) hb); have n4_ := Aside0.mk (hbox); have n5_ := Aside0.mk ((by rw [hg]; exact (below_size (by repeat (first | (with_reducible first | exact HB.out | apply below_alloc | apply pw_below_drewN | apply below_drew1 | refine below_set ?_ GE262.out) | exact HB.out))) : w.heap.size ≤ gb270)); have n6_ := Aside0.mk ((by rw [hg]; exact (below_size (by repeat (first | (with_reducible first | exact HB.out | apply below_alloc | apply pw_below_drewN | apply below_drew1 | refine below_set ?_ GE262.out) | exact HB.out))) : w.heap.size ≤ gb270)); have n7_ := offertorylaw25_IdealHides.neL BK262 hg; have n8_ := offertorylaw25_IdealHides.neG BK262 hg; clear HO265; clear HO268; clear BK262; clear HB; have HO265 := n0_; have HO268 := n1_; have BK262 := n2_; have HB := n3_; have BK270 := n4_; have GW270 := n5_; have GE270 := n6_; have NB262_270 := n7_; have NB270_262 := n8_; clear n0_ n1_ n2_ n3_ n4_ n5_ n6_ n7_ n8_; clear hb hbox hg; obtain ⟨Ao13, co13, eo13⟩ := Kd.R_slice HO265.out; subst eo13; have hnb14 := NB270_262.out; have hnc14 := NB262_270.out; have hcz15_0 : w12.cell? ⟨gb270, 0, none⟩ = some (.slice none 0 0) := (blk_cell BK270.out 0).trans rfl; have hcz15_1 : w12.cell? ⟨gb270, 1, none⟩ = some (.slice none 0 0) := (blk_cell BK270.out 1).trans rfl; have hfz15_0 := blk_frozen BK270.out 0; have hfz15_1 := blk_frozen BK270.out 1; obtain ⟨Ao16, co16, eo16⟩ := Kd.R_slice HO268.out; subst eo16; have hcz17_0 : w12.cell? ⟨gb262, 0, none⟩ = some (.slice A2_0 l2_0.length c2_0) := (blk_cell BK262.out 0).trans rfl; have hcz17_1 : w12.cell? ⟨gb262, 1, none⟩ = some (.slice A2_1 l2_1.length c2_1) := (blk_cell BK262.out 1).trans rfl; have hfz17_0 := blk_frozen BK262.out 0; have hfz17_1 := blk_frozen BK262.out 1) | ((with_reducible refine gate_callee (f := 13) rfl ?_); refine goesL_ (some 35) rfl rfl Tryd.func13 (by kernel_rfl) rfl #[.slice A0 l0.length c0, .agg #[.slice A2_0 l2_0.length c2_0, .slice A2_1 l2_1.length c2_1], .int .u64 a3, .int .u64 a4] rfl (by (try simp only [List.map_toArray, List.map_cons, List.map_nil]); first | done | rfl | (simp only [List.length_drop, List.length_take]; rfl)) ?_; (with_reducible refine (offertorylaw25_check.calls k _ _ l0 _ _ l2_0 _ _ l2_1 a3 a4 t271 _ ?side1 ?side2 ?side3 ?side4 ?side5 ?side6 A7.out).mono ?_); (case side1 => exact Kd.C_below HR0.out (by repeat (first | (with_reducible first | exact HB.out | apply below_alloc | apply pw_below_drewN | apply below_drew1 | refine below_set ?_ GE262.out | refine below_set ?_ GE270.out) | exact HB.out))); (case side2 => exact HC0.out); (case side3 => exact Kd.C_below HR2_0.out (by repeat (first | (with_reducible first | exact HB.out | apply below_alloc | apply pw_below_drewN | apply below_drew1 | refine below_set ?_ GE262.out | refine below_set ?_ GE270.out) | exact HB.out))); (case side4 => exact HC2_0.out); (case side5 => exact Kd.C_below HR2_1.out (by repeat (first | (with_reducible first | exact HB.out | apply below_alloc | apply pw_below_drewN | apply below_drew1 | refine below_set ?_ GE262.out | refine below_set ?_ GE270.out) | exact HB.out))); (case side6 => exact HC2_1.out); rintro e w18 ⟨rfl, hb⟩; refine ⟨_, rfl, ?_⟩; have n0_ := Aside0.mk (Kd.R_below (by (with_reducible repeat (first | apply Kd.R_alloc | apply Kd.R_drewN | apply Kd.R_drew)); exact (Kd.R_mono (Kd.R_far (p := ⟨gb270, 1, none⟩) (Kd.R_far (p := ⟨gb270, 0, none⟩) (Kd.R_types HO265.out BK270.out (by decide)) (fun _ hk => hk.2) (.slice Ao13 t263.length co13)) (fun _ hk => hk.2) (.slice Ao16 t266.length co16)) (fun _ h_ => h_.1))) hb); have n1_ := Aside0.mk (Kd.R_below (by (with_reducible repeat (first | apply Kd.R_alloc | apply Kd.R_drewN | apply Kd.R_drew)); exact (Kd.R_mono (Kd.R_far (p := ⟨gb270, 1, none⟩) (Kd.R_far (p := ⟨gb270, 0, none⟩) (Kd.R_types HO268.out BK270.out (by decide)) (fun _ hk => hk.2) (.slice Ao13 t263.length co13)) (fun _ hk => hk.2) (.slice Ao16 t266.length co16)) (fun _ h_ => h_.1))) hb); have n2_ := Aside0.mk (blk_below (g := gb262) (o := .cells #[.slice A2_0 l2_0.length c2_0, .slice A2_1 l2_1.length c2_1] 25 (0, 0)) (by (repeat (first | (with_reducible first | refine blk_drewN ?_ _ | refine blk_drew ?_ | refine blk_alloc ?_ _) | refine blk_far ?_ NB262_270.out _)); (with_reducible repeat (first | refine blk_drewN ?_ _ | refine blk_drew ?_ | refine blk_alloc ?_ _)); exact BK262.out) hb); have n3_ := Aside0.mk (blk_below (g := gb270) (o := .cells #[.slice Ao13 t263.length co13, .slice Ao16 t266.length co16] 25 (0, 0)) (by (with_reducible repeat (first | refine blk_drewN ?_ _ | refine blk_drew ?_ | refine blk_alloc ?_ _)); refine blk_put (cs := #[.slice Ao13 t263.length co13, .slice none 0 0]) ?_ 1 _ rfl; (with_reducible repeat (first | refine blk_drewN ?_ _ | refine blk_drew ?_ | refine blk_alloc ?_ _)); refine blk_put (cs := #[.slice none 0 0, .slice none 0 0]) ?_ 0 _ rfl; (with_reducible repeat (first | refine blk_drewN ?_ _ | refine blk_drew ?_ | refine blk_alloc ?_ _)); exact BK270.out) hb); have n4_ := Aside0.mk (below_step (by repeat (first | (with_reducible first | exact HB.out | apply below_alloc | apply pw_below_drewN | apply below_drew1 | refine below_set ?_ GE262.out | refine below_set ?_ GE270.out) | exact HB.out)) hb); clear HO265; clear HO268; clear BK262; clear BK270; clear HB; have HO265 := n0_; have HO268 := n1_; have BK262 := n2_; have BK270 := n3_; have HB := n4_; clear n0_ n1_ n2_ n3_ n4_; (try clear hb); (try clear hb2); (try clear hk); (try clear hi)))
 (try simp only [Act.put, List.setIfInBounds_toArray, List.set_cons_zero, List.set_cons_succ])
 go_cut [13] (fun v13 wc => ∃ (kq : Nat) (x13_7 : Int), v13 = .int .i64 x13_7 ∧ Aside0 (offertorylaw25_IdealHides.j0 kq l0 l1 a3 a4 t269 x13_7 l2_0 l2_1 t263 t266 = some r) ∧ Aside0 (kq ≤ k) ∧ Aside0 (Kd.R (Kd.slice 37 (Kd.int .u32)) 35 wc w.heap.size (fun _ => True) (.slice Ao13 t263.length co13) t263) ∧ Aside0 (Kd.R (Kd.slice 35 (Kd.slice 37 (Kd.int .u32))) 22 wc w.heap.size (fun k_ => some k_ ≠ ((.slice Ao13 t263.length co13) : Value).ownBlock) (.slice Ao16 t266.length co16) t266) ∧ Aside0 (wc.heap[gb262]? = some (.cells #[(.slice A2_0 l2_0.length c2_0), (.slice A2_1 l2_1.length c2_1)] 25 (0, 0))) ∧ Aside0 (wc.heap[gb270]? = some (.cells #[(.slice Ao13 t263.length co13), (.slice Ao16 t266.length co16)] 25 (0, 0))) ∧ Aside0 (Below w.heap.size w wc))
 case first =>
  have H := HC8.out
  clear HC8
  by_cases c19 : t271 = 0
  ·
   rw [if_pos c19] at H
   have c19b0 : (t271 == 0) = true := beq_iff_eq.mpr c19
   have c19b1 : (t271 != 0) = false := bne_eq_false_iff_eq.mpr c19
   clear c19
   (first | rw [c19b0] | (simp only [i64_w, i32_w]; rw [c19b0]) | skip)
   replace H := Option.bind_eq_some_iff.mp H
   obtain ⟨t272, A200, H⟩ := H
   replace H : (offertorylaw25_IdealHides.j0 k l0 l1 a3 a4 t269 t272 l2_0 l2_1 t263 t266) = some r := H
   have A20 := Aside0.mk A200
   clear A200
   have H' := Aside0.mk H
   clear H
   have hnb21 := NB262_270.out
   have hnc21 := NB270_262.out
   have hcz22_0 : w18.cell? ⟨gb262, 0, none⟩ = some (.slice A2_0 l2_0.length c2_0) := (blk_cell BK262.out 0).trans rfl
   have hcz22_1 : w18.cell? ⟨gb262, 1, none⟩ = some (.slice A2_1 l2_1.length c2_1) := (blk_cell BK262.out 1).trans rfl
   have hfz22_0 := blk_frozen BK262.out 0
   have hfz22_1 := blk_frozen BK262.out 1
   go_wp2_with (first | ((with_reducible refine gate_callee (f := 13) rfl ?_); refine goesL_ (some 42) rfl rfl Tryd.func13 (by kernel_rfl) rfl #[.slice A1 l1.length c1, .agg #[.slice A2_0 l2_0.length c2_0, .slice A2_1 l2_1.length c2_1], .int .u64 a3, .int .u64 a4] rfl (by (try simp only [List.map_toArray, List.map_cons, List.map_nil]); first | done | rfl | (simp only [List.length_drop, List.length_take]; rfl)) ?_; (with_reducible refine (offertorylaw25_check.calls k _ _ l1 _ _ l2_0 _ _ l2_1 a3 a4 t272 _ ?side1 ?side2 ?side3 ?side4 ?side5 ?side6 A20.out).mono ?_); (case side1 => repeat (first | exact (Kd.C_below HR1.out HB.out) | (with_reducible refine Kd.C_alloc ?_ _) | (with_reducible refine Kd.C_drewN ?_ _) | (with_reducible refine Kd.C_drew ?_))); (case side2 => exact HC1.out); (case side3 => repeat (first | exact (Kd.C_below HR2_0.out HB.out) | (with_reducible refine Kd.C_alloc ?_ _) | (with_reducible refine Kd.C_drewN ?_ _) | (with_reducible refine Kd.C_drew ?_))); (case side4 => exact HC2_0.out); (case side5 => repeat (first | exact (Kd.C_below HR2_1.out HB.out) | (with_reducible refine Kd.C_alloc ?_ _) | (with_reducible refine Kd.C_drewN ?_ _) | (with_reducible refine Kd.C_drew ?_))); (case side6 => exact HC2_1.out); rintro e w23 ⟨rfl, hb⟩; refine ⟨_, rfl, ?_⟩; have n0_ := Aside0.mk (Kd.R_below (by (with_reducible repeat (first | apply Kd.R_alloc | apply Kd.R_drewN | apply Kd.R_drew)); exact HO265.out) hb); have n1_ := Aside0.mk (Kd.R_below (by (with_reducible repeat (first | apply Kd.R_alloc | apply Kd.R_drewN | apply Kd.R_drew)); exact HO268.out) hb); have n2_ := offertorylaw25_IdealHides.keepB BK262 hb; have n3_ := offertorylaw25_IdealHides.keepB BK270 hb; have n4_ := Aside0.mk (below_step (by repeat (first | (with_reducible first | exact HB.out | apply below_alloc | apply pw_below_drewN | apply below_drew1 | refine below_set ?_ GE262.out | refine below_set ?_ GE270.out) | exact HB.out)) hb); clear HO265; clear HO268; clear BK262; clear BK270; clear HB; have HO265 := n0_; have HO268 := n1_; have BK262 := n2_; have BK270 := n3_; have HB := n4_; clear n0_ n1_ n2_ n3_ n4_; (try clear hb); (try clear hb2); (try clear hk); (try clear hi)))
   go_meet
   case rel => exact ⟨_, (t272), (by first | rfl | (simp; done) | (simp [*]; done)), H', ⟨by first | omega | exact Nat.le_refl _⟩, ⟨by (with_reducible repeat (first | apply Kd.R_alloc | apply Kd.R_drewN | apply Kd.R_drew)); exact HO265.out⟩, ⟨by (with_reducible repeat (first | apply Kd.R_alloc | apply Kd.R_drewN | apply Kd.R_drew)); exact HO268.out⟩, ⟨by (with_reducible repeat (first | refine blk_drewN ?_ _ | refine blk_drew ?_ | refine blk_alloc ?_ _)); exact BK262.out⟩, ⟨by (with_reducible repeat (first | refine blk_drewN ?_ _ | refine blk_drew ?_ | refine blk_alloc ?_ _)); exact BK270.out⟩, ⟨by repeat (first | (with_reducible first | exact HB.out | apply below_alloc | apply pw_below_drewN | apply below_drew1 | refine below_set ?_ GE262.out | refine below_set ?_ GE270.out) | exact HB.out)⟩⟩
  ·
   rw [if_neg c19] at H
   have c19b0 : (t271 == 0) = false := beq_eq_false_iff_ne.mpr c19
   have c19b1 : (t271 != 0) = true := bne_iff_ne.mpr c19
   (first | rw [c19b0] | (simp only [i64_w, i32_w]; rw [c19b0]) | skip)
   have H' := Aside0.mk H
   clear H
   go_wp2
   go_meet
   case rel => exact ⟨_, (t271), (by first | rfl | (simp; done) | (simp [*]; done)), H', ⟨by first | omega | exact Nat.le_refl _⟩, ⟨by (with_reducible repeat (first | apply Kd.R_alloc | apply Kd.R_drewN | apply Kd.R_drew)); exact HO265.out⟩, ⟨by (with_reducible repeat (first | apply Kd.R_alloc | apply Kd.R_drewN | apply Kd.R_drew)); exact HO268.out⟩, ⟨by (with_reducible repeat (first | refine blk_drewN ?_ _ | refine blk_drew ?_ | refine blk_alloc ?_ _)); exact BK262.out⟩, ⟨by (with_reducible repeat (first | refine blk_drewN ?_ _ | refine blk_drew ?_ | refine blk_alloc ?_ _)); exact BK270.out⟩, ⟨by repeat (first | (with_reducible first | exact HB.out | apply below_alloc | apply pw_below_drewN | apply below_drew1 | refine below_set ?_ GE262.out | refine below_set ?_ GE270.out) | exact HB.out)⟩⟩
 case rest =>
  clear HC8
  try clear c1
  try clear c2
  try clear p2
  try clear c5
  try clear c13
  try clear c14
  try clear c16
  try clear c19
  try clear c19b0
  try clear c19b1
  try clear c21
  try clear hcz10_0
  try clear hcz10_1
  try clear hcz15_0
  try clear hcz15_1
  try clear hcz17_0
  try clear hcz17_1
  try clear hcz22_0
  try clear hcz22_1
  try clear hfz10_0
  try clear hfz10_1
  try clear hfz15_0
  try clear hfz15_1
  try clear hfz17_0
  try clear hfz17_1
  try clear hfz22_0
  try clear hfz22_1
  obtain ⟨kq, x13_7, rfl, HA, HJ7, HO_271000, HO_271001, BK262, BK270, HB⟩ := hcut
  cases kq with
  | zero => exact absurd HA.out (by simp [offertorylaw25_IdealHides.j0])
  | succ kj7 =>
   have H := HA.out
   clear HA
   simp only [offertorylaw25_IdealHides.j0] at H
   by_cases c24 : x13_7 = 0
   ·
    rw [if_pos c24] at H
    have c24b0 : (x13_7 == 0) = true := beq_iff_eq.mpr c24
    have c24b1 : (x13_7 != 0) = false := bne_eq_false_iff_eq.mpr c24
    clear c24
    have H' := Aside0.mk H
    clear H
    go_wp2
    go_loopg [14, 15] kj7 (fun kq v14 v15 w' => ∃ (x14_2 : Bool) (x15_2 : Int), v14 = .bool x14_2 ∧ v15 = .int .i64 x15_2 ∧ Aside0 (offertorylaw25_IdealHides.l0 kq l0 l1 a3 a4 t269 x14_2 x15_2 l2_0 l2_1 t263 t266 = some r) ∧ Aside0 (kq ≤ kj7) ∧ Aside0 (Kd.R (Kd.slice 37 (Kd.int .u32)) 35 w' w.heap.size (fun _ => True) (.slice Ao13 t263.length co13) t263) ∧ Aside0 (Kd.R (Kd.slice 35 (Kd.slice 37 (Kd.int .u32))) 22 w' w.heap.size (fun k_ => some k_ ≠ ((.slice Ao13 t263.length co13) : Value).ownBlock) (.slice Ao16 t266.length co16) t266) ∧ Aside0 (w'.heap[gb262]? = some (.cells #[(.slice A2_0 l2_0.length c2_0), (.slice A2_1 l2_1.length c2_1)] 25 (0, 0))) ∧ Aside0 (w'.heap[gb270]? = some (.cells #[(.slice Ao13 t263.length co13), (.slice Ao16 t266.length co16)] 25 (0, 0))) ∧ Aside0 (Below w.heap.size w w'))
    case atStart => exact ⟨(true), (0), (by first | rfl | (simp; done) | (simp [*]; done)), (by first | rfl | (simp; done) | (simp [*]; done)), H', ⟨Nat.le_refl _⟩, ⟨by (with_reducible repeat (first | apply Kd.R_alloc | apply Kd.R_drewN | apply Kd.R_drew)); exact HO_271000.out⟩, ⟨by (with_reducible repeat (first | apply Kd.R_alloc | apply Kd.R_drewN | apply Kd.R_drew)); exact HO_271001.out⟩, ⟨by (with_reducible repeat (first | refine blk_drewN ?_ _ | refine blk_drew ?_ | refine blk_alloc ?_ _)); exact BK262.out⟩, ⟨by (with_reducible repeat (first | refine blk_drewN ?_ _ | refine blk_drew ?_ | refine blk_alloc ?_ _)); exact BK270.out⟩, ⟨by repeat (first | (with_reducible first | exact HB.out | apply below_alloc | apply pw_below_drewN | apply below_drew1 | refine below_set ?_ GE262.out | refine below_set ?_ GE270.out) | exact HB.out)⟩⟩
    case round =>
     clear H'
     try clear c1
     try clear c2
     try clear p2
     try clear c5
     try clear c13
     try clear c14
     try clear c16
     try clear c19
     try clear c19b0
     try clear c19b1
     try clear c21
     try clear c24
     try clear c24b0
     try clear c24b1
     try clear hcz10_0
     try clear hcz10_1
     try clear hcz15_0
     try clear hcz15_1
     try clear hcz17_0
     try clear hcz17_1
     try clear hcz22_0
     try clear hcz22_1
     try clear hfz10_0
     try clear hfz10_1
     try clear hfz15_0
     try clear hfz15_1
     try clear hfz17_0
     try clear hfz17_1
     try clear hfz22_0
     try clear hfz22_1
     try clear p2
     obtain ⟨x14_2, x15_2, rfl, rfl, HA, HK2, HO_271000, HO_271001, BK262, BK270, HB⟩ := hrel
     cases gk with
     | zero => exact absurd HA.out (by simp [offertorylaw25_IdealHides.l0])
     | succ k2 =>
      have H := HA.out
      clear HA
      simp only [offertorylaw25_IdealHides.l0] at H
      by_cases c25 : 0 < (l0.length : Int)
      ·
       rw [if_pos c25] at H
       have c25b0 : decide (0 < (l0.length : Int)) = true := decide_eq_true c25
       have c25b1 : decide (0 < l0.length) = true := decide_eq_true (by omega)
       clear c25
       by_cases c26 : x15_2 < ((rd_L1 l0 0).length : Int)
       ·
        rw [if_pos c26] at H
        have c26b0 : decide (x15_2 < ((rd_L1 l0 0).length : Int)) = true := decide_eq_true c26
        clear c26
        have H' := Aside0.mk H
        clear H
        have p275 : 0 ≤ (0 : Int) := (by omega)
        have q275 : 0 < (l0.length : Int) := of_decide_eq_true (by first | (with_reducible assumption) | assumption)
        obtain ⟨ad275, A275_0, c275_0, e275, hx275_0, hl275_0, hi275_0⟩ := at_L1 HR0.out 0 p275 q275
        cases e275
        have qi275 : (0 < l0.length) = True := eq_true (by omega)
        (try rw [show ((0 : Int)).toNat = 0 from rfl] at hx275_0)
        (try rw [Addr.add_zero'] at hx275_0)
        replace hx275_0 := (HB.out.cell (World.block_lt_of_cell? w _ hx275_0)).trans hx275_0
        have HR275_0 := Aside0.mk hi275_0
        have HC275_0 := Aside0.mk hl275_0
        clear hi275_0 hl275_0
        replace p275 := eq_true p275
        replace q275 := eq_true q275
        go_wp2
        go_loopg [16, 17] k2 (fun kq v16 v17 w' => ∃ (x16_3 : Int) (x17_3 : Int), v16 = .int .u32 x16_3 ∧ v17 = .int .i64 x17_3 ∧ Aside0 (offertorylaw25_IdealHides.l1 kq l0 l1 a3 a4 t269 x14_2 x15_2 x16_3 x17_3 l2_0 l2_1 t263 t266 = some r) ∧ Aside0 (kq ≤ k2) ∧ Aside0 (Kd.R (Kd.slice 37 (Kd.int .u32)) 35 w' w.heap.size (fun _ => True) (.slice Ao13 t263.length co13) t263) ∧ Aside0 (Kd.R (Kd.slice 35 (Kd.slice 37 (Kd.int .u32))) 22 w' w.heap.size (fun k_ => some k_ ≠ ((.slice Ao13 t263.length co13) : Value).ownBlock) (.slice Ao16 t266.length co16) t266) ∧ Aside0 (w'.heap[gb262]? = some (.cells #[(.slice A2_0 l2_0.length c2_0), (.slice A2_1 l2_1.length c2_1)] 25 (0, 0))) ∧ Aside0 (w'.heap[gb270]? = some (.cells #[(.slice Ao13 t263.length co13), (.slice Ao16 t266.length co16)] 25 (0, 0))) ∧ Aside0 (Below w.heap.size w w'))
        case atStart => exact ⟨(0), (0), (by first | rfl | (simp; done) | (simp [*]; done)), (by first | rfl | (simp; done) | (simp [*]; done)), H', ⟨Nat.le_refl _⟩, ⟨by (with_reducible repeat (first | apply Kd.R_alloc | apply Kd.R_drewN | apply Kd.R_drew)); exact HO_271000.out⟩, ⟨by (with_reducible repeat (first | apply Kd.R_alloc | apply Kd.R_drewN | apply Kd.R_drew)); exact HO_271001.out⟩, ⟨by (with_reducible repeat (first | refine blk_drewN ?_ _ | refine blk_drew ?_ | refine blk_alloc ?_ _)); exact BK262.out⟩, ⟨by (with_reducible repeat (first | refine blk_drewN ?_ _ | refine blk_drew ?_ | refine blk_alloc ?_ _)); exact BK270.out⟩, ⟨by repeat (first | (with_reducible first | exact HB.out | apply below_alloc | apply pw_below_drewN | apply below_drew1 | refine below_set ?_ GE262.out | refine below_set ?_ GE270.out) | exact HB.out)⟩⟩
        case round =>
         clear H'
         try clear c1
         try clear c2
         try clear p2
         try clear q2
         try clear hx2
         try clear qi2
         try clear c5
         try clear c13
         try clear c14
         try clear c16
         try clear c19
         try clear c19b0
         try clear c19b1
         try clear c21
         try clear c24
         try clear c24b0
         try clear c24b1
         try clear c25
         try clear c25b0
         try clear c25b1
         try clear c26
         try clear c26b0
         try clear hcz10_0
         try clear hcz10_1
         try clear hcz15_0
         try clear hcz15_1
         try clear hcz17_0
         try clear hcz17_1
         try clear hcz22_0
         try clear hcz22_1
         try clear hfz10_0
         try clear hfz10_1
         try clear hfz15_0
         try clear hfz15_1
         try clear hfz17_0
         try clear hfz17_1
         try clear hfz22_0
         try clear hfz22_1
         try clear hx275_0
         try clear p2
         try clear p275
         try clear q275
         obtain ⟨x16_3, x17_3, rfl, rfl, HA, HK3, HO_271000, HO_271001, BK262, BK270, HB⟩ := hrel
         cases gk with
         | zero => exact absurd HA.out (by simp [offertorylaw25_IdealHides.l1])
         | succ k3 =>
          have H := HA.out
          clear HA
          simp only [offertorylaw25_IdealHides.l1] at H
          by_cases c27 : x17_3 < (l0.length : Int)
          ·
           rw [if_pos c27] at H
           have c27b0 : decide (x17_3 < (l0.length : Int)) = true := decide_eq_true c27
           clear c27
           replace H := Option.bind_eq_some_iff.mp H
           obtain ⟨t276, A280, H⟩ := H
           replace H : (if t276 = true then (if 0 ≤ x17_3 then (if 0 ≤ x15_2 then (if x15_2 < ((rd_L1 l0 x17_3).length : Int) then (if x17_3 < (l1.length : Int) then (if x15_2 < ((rd_L1 l1 x17_3).length : Int) then (offertorylaw25_IdealHides.l1 k3 l0 l1 a3 a4 t269 x14_2 x15_2 ((x16_3 + (((rd (rd_L1 l0 x17_3) x15_2) - (rd (rd_L1 l1 x17_3) x15_2)) % 4294967296)) % 4294967296) (wrap64 (x17_3 + 1)) l2_0 l2_1 t263 t266) else (none)) else (none)) else (none)) else (none)) else (none)) else (offertorylaw25_IdealHides.l1 k3 l0 l1 a3 a4 t269 x14_2 x15_2 x16_3 (wrap64 (x17_3 + 1)) l2_0 l2_1 t263 t266)) = some r := H
           have A28 := Aside0.mk A280
           clear A280
           by_cases c29 : t276 = true
           ·
            subst c29
            have H1 : (if 0 ≤ x17_3 then (if 0 ≤ x15_2 then (if x15_2 < ((rd_L1 l0 x17_3).length : Int) then (if x17_3 < (l1.length : Int) then (if x15_2 < ((rd_L1 l1 x17_3).length : Int) then (offertorylaw25_IdealHides.l1 k3 l0 l1 a3 a4 t269 x14_2 x15_2 ((x16_3 + (((rd (rd_L1 l0 x17_3) x15_2) - (rd (rd_L1 l1 x17_3) x15_2)) % 4294967296)) % 4294967296) (wrap64 (x17_3 + 1)) l2_0 l2_1 t263 t266) else (none)) else (none)) else (none)) else (none)) else (none)) = some r := by rw [if_pos rfl] at H; exact H
            clear H
            have H := H1
            clear H1
            by_cases c30 : 0 ≤ x17_3
            ·
             rw [if_pos c30] at H
             have c30b0 : decide (0 ≤ x17_3) = true := decide_eq_true c30
             clear c30
             by_cases c31 : 0 ≤ x15_2
             ·
              rw [if_pos c31] at H
              have c31b0 : decide (0 ≤ x15_2) = true := decide_eq_true c31
              clear c31
              by_cases c32 : x15_2 < ((rd_L1 l0 x17_3).length : Int)
              ·
               rw [if_pos c32] at H
               have c32b0 : decide (x15_2 < ((rd_L1 l0 x17_3).length : Int)) = true := decide_eq_true c32
               clear c32
               by_cases c33 : x17_3 < (l1.length : Int)
               ·
                rw [if_pos c33] at H
                have c33b0 : decide (x17_3 < (l1.length : Int)) = true := decide_eq_true c33
                clear c33
                by_cases c34 : x15_2 < ((rd_L1 l1 x17_3).length : Int)
                ·
                 rw [if_pos c34] at H
                 have c34b0 : decide (x15_2 < ((rd_L1 l1 x17_3).length : Int)) = true := decide_eq_true c34
                 clear c34
                 have H' := Aside0.mk H
                 clear H
                 try go_wp2_with (first | ((with_reducible refine gate_callee (f := 14) rfl ?_); refine goesL_ (some 72) rfl rfl Tryd.func14 (by kernel_rfl) rfl #[.int .u64 a4, .int .i64 x17_3] rfl (by (try simp only [List.map_toArray, List.map_cons, List.map_nil]); first | done | rfl | (simp only [List.length_drop, List.length_take]; rfl)) ?_; (with_reducible refine (offertorylaw25_in.calls a4 x17_3 true _ A28.out).mono ?_); rintro e w' ⟨rfl, ⟨nd, rfl⟩⟩; refine ⟨_, rfl, ?_⟩))
                 (try (rw [drewN_self wr]; generalize hq_ : World.drewN wr _ = wr; have n0_ : Aside0 (Kd.R (Kd.slice 37 (Kd.int .u32)) 35 wr w.heap.size (fun _ => True) (.slice Ao13 t263.length co13) t263) := ⟨by rw [← hq_]; exact (by (with_reducible repeat (first | apply Kd.R_alloc | apply Kd.R_drewN | apply Kd.R_drew)); exact HO_271000.out)⟩; have n1_ : Aside0 (Kd.R (Kd.slice 35 (Kd.slice 37 (Kd.int .u32))) 22 wr w.heap.size (fun k_ => some k_ ≠ (.slice Ao13 t263.length co13 : Value).ownBlock) (.slice Ao16 t266.length co16) t266) := ⟨by rw [← hq_]; exact (by (with_reducible repeat (first | apply Kd.R_alloc | apply Kd.R_drewN | apply Kd.R_drew)); exact HO_271001.out)⟩; have n2_ : Aside0 (wr.heap[gb262]? = some (.cells #[.slice A2_0 l2_0.length c2_0, .slice A2_1 l2_1.length c2_1] 25 (0, 0))) := ⟨by rw [← hq_]; exact (by (with_reducible repeat (first | refine blk_drewN ?_ _ | refine blk_drew ?_ | refine blk_alloc ?_ _)); exact BK262.out)⟩; have n3_ : Aside0 (wr.heap[gb270]? = some (.cells #[.slice Ao13 t263.length co13, .slice Ao16 t266.length co16] 25 (0, 0))) := ⟨by rw [← hq_]; exact (by (with_reducible repeat (first | refine blk_drewN ?_ _ | refine blk_drew ?_ | refine blk_alloc ?_ _)); exact BK270.out)⟩; have n4_ : Aside0 (Below w.heap.size w wr) := ⟨by rw [← hq_]; exact (by repeat (first | (with_reducible first | exact HB.out | apply below_alloc | apply pw_below_drewN | apply below_drew1 | refine below_set ?_ GE262.out | refine below_set ?_ GE270.out) | exact HB.out))⟩; clear HO_271000 HO_271001 BK262 BK270 HB hq_; have HO_271000 := n0_; have HO_271001 := n1_; have BK262 := n2_; have BK270 := n3_; have HB := n4_; clear n0_ n1_ n2_ n3_ n4_))
                 have n0_ := Aside0.mk (Kd.R_drew HO_271000.out)
                 have n1_ := Aside0.mk (Kd.R_drew HO_271001.out)
                 have n2_ := Aside0.mk (blk_drew BK262.out)
                 have n3_ := Aside0.mk (blk_drew BK270.out)
                 have n4_ := Aside0.mk (below_drew1 HB.out)
                 clear HO_271000
                 clear HO_271001
                 clear BK262
                 clear BK270
                 clear HB
                 have HO_271000 := n0_
                 have HO_271001 := n1_
                 have BK262 := n2_
                 have BK270 := n3_
                 have HB := n4_
                 clear n0_ n1_ n2_ n3_ n4_
                 have p277 : 0 ≤ (x17_3 : Int) := of_decide_eq_true (by first | (with_reducible assumption) | assumption)
                 have q277 : x17_3 < (l0.length : Int) := of_decide_eq_true (by first | (with_reducible assumption) | assumption)
                 obtain ⟨ad277, A277_0, c277_0, e277, hx277_0, hl277_0, hi277_0⟩ := at_L1 HR0.out x17_3 p277 q277
                 have hw277_0 := hx277_0
                 obtain rfl : ad275 = ad277 := (by injection e277)
                 replace hx277_0 := (HB.out.cell (World.block_lt_of_cell? w _ hx277_0)).trans hx277_0
                 have HR277_0 := Aside0.mk hi277_0
                 have HC277_0 := Aside0.mk hl277_0
                 clear hi277_0 hl277_0
                 replace p277 := eq_true p277
                 replace q277 := eq_true q277
                 have p278 : 0 ≤ (x15_2 : Int) := of_decide_eq_true (by first | (with_reducible assumption) | assumption)
                 have q278 : x15_2 < ((rd_L1 l0 x17_3).length : Int) := of_decide_eq_true (by first | (with_reducible assumption) | assumption)
                 obtain ⟨ad278, e278, hx278_0⟩ := Kd.at_int HR277_0.out x15_2 p278 q278
                 have hw278_0 := hx278_0
                 cases e278
                 replace hx278_0 := (HB.out.cell (World.block_lt_of_cell? w _ hx278_0)).trans hx278_0
                 replace p278 := eq_true p278
                 replace q278 := eq_true q278
                 have p279 : 0 ≤ (x17_3 : Int) := of_decide_eq_true (by first | (with_reducible assumption) | assumption)
                 have q279 : x17_3 < (l1.length : Int) := of_decide_eq_true (by first | (with_reducible assumption) | assumption)
                 obtain ⟨ad279, A279_0, c279_0, e279, hx279_0, hl279_0, hi279_0⟩ := at_L1 HR1.out x17_3 p279 q279
                 have hw279_0 := hx279_0
                 cases e279
                 replace hx279_0 := (HB.out.cell (World.block_lt_of_cell? w _ hx279_0)).trans hx279_0
                 have HR279_0 := Aside0.mk hi279_0
                 have HC279_0 := Aside0.mk hl279_0
                 clear hi279_0 hl279_0
                 replace p279 := eq_true p279
                 replace q279 := eq_true q279
                 have p280 : 0 ≤ (x15_2 : Int) := of_decide_eq_true (by first | (with_reducible assumption) | assumption)
                 have q280 : x15_2 < ((rd_L1 l1 x17_3).length : Int) := of_decide_eq_true (by first | (with_reducible assumption) | assumption)
                 obtain ⟨ad280, e280, hx280_0⟩ := Kd.at_int HR279_0.out x15_2 p280 q280
                 have hw280_0 := hx280_0
                 cases e280
                 replace hx280_0 := (HB.out.cell (World.block_lt_of_cell? w _ hx280_0)).trans hx280_0
                 replace p280 := eq_true p280
                 replace q280 := eq_true q280
                 refine start_ (n := 18) (S := fun w' => w'.cell? (ad275.add (x17_3).toNat) = some (.slice (some ad278) (rd_L1 l0 x17_3).length c277_0) ∧ w'.cell? (ad278.add (x15_2).toNat) = some (.int .u32 (rd (rd_L1 l0 x17_3) x15_2)) ∧ w'.cell? (ad279.add (x17_3).toNat) = some (.slice (some ad280) (rd_L1 l1 x17_3).length c279_0) ∧ w'.cell? (ad280.add (x15_2).toNat) = some (.int .u32 (rd (rd_L1 l1 x17_3) x15_2))) (ds := []) #[F, F, F, F, F, F, F, F, F, F, F, F, F, F, F, F, F, F] (by kernel_rfl) rfl rfl ⟨((HB.out.cell (World.block_lt_of_cell? w _ hw277_0)).trans hw277_0), ((HB.out.cell (World.block_lt_of_cell? w _ hw278_0)).trans hw278_0), ((HB.out.cell (World.block_lt_of_cell? w _ hw279_0)).trans hw279_0), ((HB.out.cell (World.block_lt_of_cell? w _ hw280_0)).trans hw280_0)⟩ (fun hHeld => ?_); refine with_tabW offertorylaw25_IdealHides.tab16 offertorylaw25_IdealHides.bits16 (fun HT_ HW_ => ?_)
                 generalize wr.drew = w35 at HO_271000 HO_271001 BK262 BK270 HB HR277_0 HR279_0 hx277_0 hx278_0 hx279_0 hx280_0 hHeld ⊢
                 refine pure_ (i := 0) (N := some 73) (v := ?_) (a' := ?_) #[T, F, F, F, F, F, F, F, F, F, F, F, F, F, F, F, F, F] rfl rfl (any_of HT_.out (by kernel_rfl)) (fun _ _ _ h => h) (Or.inl ⟨by rfl, ?_⟩) ?_ ?_
                 rotate_left
                 ·
                  intro w'
                  (try simp only [add_plain] at s0 s1 s2 s3)
                  go_simp
                  with_reducible rfl
                 rotate_left
                 ·
                  simp only [Act.put, List.setIfInBounds_toArray, List.set_cons_zero, List.set_cons_succ, i64_w, i32_w]
                  rfl
                 refine pure_ (i := 1) (N := some 74) (v := ?_) (a' := ?_) #[T, T, F, F, F, F, F, F, F, F, F, F, F, F, F, F, F, F] rfl rfl (any_of HT_.out (by kernel_rfl)) (fun _ _ _ h => h) (Or.inl ⟨by rfl, ?_⟩) ?_ ?_
                 rotate_left
                 ·
                  intro w'
                  (try simp only [add_plain] at s0 s1 s2 s3)
                  go_simp
                  with_reducible rfl
                 rotate_left
                 ·
                  simp only [Act.put, List.setIfInBounds_toArray, List.set_cons_zero, List.set_cons_succ, i64_w, i32_w]
                  rfl
                 refine pure_ (i := 2) (N := some 75) (v := ?_) (a' := ?_) #[T, T, T, F, F, F, F, F, F, F, F, F, F, F, F, F, F, F] rfl rfl (any_of HT_.out (by kernel_rfl)) (fun _ _ _ h => h) (Or.inl ⟨by rfl, ?_⟩) ?_ ?_
                 rotate_left
                 ·
                  intro w'
                  (try simp only [add_plain] at s0 s1 s2 s3)
                  go_simp
                  with_reducible rfl
                 rotate_left
                 ·
                  simp only [Act.put, List.setIfInBounds_toArray, List.set_cons_zero, List.set_cons_succ, i64_w, i32_w]
                  rfl
                 refine pure_ (i := 3) (N := some 76) (v := ?_) (a' := ?_) #[T, T, T, T, F, F, F, F, F, F, F, F, F, F, F, F, F, F] rfl rfl (any_of HT_.out (by kernel_rfl)) (fun _ _ _ h => h) (Or.inl ⟨by rfl, ?_⟩) ?_ ?_
                 rotate_left
                 ·
                  intro w'
                  (try simp only [add_plain] at s0 s1 s2 s3)
                  go_simp
                  with_reducible rfl
                 rotate_left
                 ·
                  simp only [Act.put, List.setIfInBounds_toArray, List.set_cons_zero, List.set_cons_succ, i64_w, i32_w]
                  rfl
                 refine pure_ (i := 5) (N := some 78) (v := ?_) (a' := ?_) #[T, T, T, T, F, T, F, F, F, F, F, F, F, F, F, F, F, F] rfl rfl (any_of HT_.out (by kernel_rfl)) (fun _ _ _ h => h) (Or.inl ⟨by rfl, ?_⟩) ?_ ?_
                 rotate_left
                 ·
                  intro w'
                  (try simp only [add_plain] at s0 s1 s2 s3)
                  go_simp
                  with_reducible rfl
                 rotate_left
                 ·
                  simp only [Act.put, List.setIfInBounds_toArray, List.set_cons_zero, List.set_cons_succ, i64_w, i32_w]
                  rfl
                 refine pure_ (i := 8) (N := some 81) (v := ?_) (a' := ?_) #[T, T, T, T, F, T, F, F, T, F, F, F, F, F, F, F, F, F] rfl rfl (any_of HT_.out (by kernel_rfl)) (fun _ _ _ h => h) (Or.inl ⟨by rfl, ?_⟩) ?_ ?_
                 rotate_left
                 ·
                  intro w'
                  (try simp only [add_plain] at s0 s1 s2 s3)
                  go_simp
                  with_reducible rfl
                 rotate_left
                 ·
                  simp only [Act.put, List.setIfInBounds_toArray, List.set_cons_zero, List.set_cons_succ, i64_w, i32_w]
                  rfl
                 refine pure_ (i := 9) (N := some 82) (v := ?_) (a' := ?_) #[T, T, T, T, F, T, F, F, T, T, F, F, F, F, F, F, F, F] rfl rfl (any_of HT_.out (by kernel_rfl)) (fun _ _ _ h => h) (Or.inl ⟨by rfl, ?_⟩) ?_ ?_
                 rotate_left
                 ·
                  intro w'
                  (try simp only [add_plain] at s0 s1 s2 s3)
                  go_simp
                  with_reducible rfl
                 rotate_left
                 ·
                  simp only [Act.put, List.setIfInBounds_toArray, List.set_cons_zero, List.set_cons_succ, i64_w, i32_w]
                  rfl
                 refine pure_ (i := 10) (N := some 83) (v := ?_) (a' := ?_) #[T, T, T, T, F, T, F, F, T, T, T, F, F, F, F, F, F, F] rfl rfl (any_of HT_.out (by kernel_rfl)) (fun _ _ _ h => h) (Or.inl ⟨by rfl, ?_⟩) ?_ ?_
                 rotate_left
                 ·
                  intro w'
                  (try simp only [add_plain] at s0 s1 s2 s3)
                  go_simp
                  with_reducible rfl
                 rotate_left
                 ·
                  simp only [Act.put, List.setIfInBounds_toArray, List.set_cons_zero, List.set_cons_succ, i64_w, i32_w]
                  rfl
                 refine pure_ (i := 12) (N := some 85) (v := ?_) (a' := ?_) #[T, T, T, T, F, T, F, F, T, T, T, F, T, F, F, F, F, F] rfl rfl (any_of HT_.out (by kernel_rfl)) (fun _ _ _ h => h) (Or.inl ⟨by rfl, ?_⟩) ?_ ?_
                 rotate_left
                 ·
                  intro w'
                  (try simp only [add_plain] at s0 s1 s2 s3)
                  go_simp
                  with_reducible rfl
                 rotate_left
                 ·
                  simp only [Act.put, List.setIfInBounds_toArray, List.set_cons_zero, List.set_cons_succ, i64_w, i32_w]
                  rfl
                 refine take_ (i := 4) (N := some 77) (v := ?_) (a' := ?_) #[T, T, T, T, T, T, F, F, T, T, T, F, T, F, F, F, F, F] rfl rfl (take_ofW HT_.out HW_.out (by kernel_rfl)) (fun _ _ _ h => h) (Or.inl ⟨by rfl, ?_⟩) hHeld ?_ ?_
                 rotate_left
                 ·
                  rintro w' ⟨s0, s1, s2, s3⟩
                  (try simp only [add_plain] at s0 s1 s2 s3)
                  go_simp
                  with_reducible rfl
                 rotate_left
                 ·
                  simp only [Act.put, List.setIfInBounds_toArray, List.set_cons_zero, List.set_cons_succ, i64_w, i32_w]
                  rfl
                 refine pure_ (i := 6) (N := some 79) (v := ?_) (a' := ?_) #[T, T, T, T, T, T, T, F, T, T, T, F, T, F, F, F, F, F] rfl rfl (any_of HT_.out (by kernel_rfl)) (fun _ _ _ h => h) (Or.inl ⟨by rfl, ?_⟩) ?_ ?_
                 rotate_left
                 ·
                  intro w'
                  (try simp only [add_plain] at s0 s1 s2 s3)
                  go_simp
                  with_reducible rfl
                 rotate_left
                 ·
                  simp only [Act.put, List.setIfInBounds_toArray, List.set_cons_zero, List.set_cons_succ, i64_w, i32_w]
                  rfl
                 refine take_ (i := 7) (N := some 80) (v := ?_) (a' := ?_) #[T, T, T, T, T, T, T, T, T, T, T, F, T, F, F, F, F, F] rfl rfl (take_ofW HT_.out HW_.out (by kernel_rfl)) (fun _ _ _ h => h) (Or.inl ⟨by rfl, ?_⟩) hHeld ?_ ?_
                 rotate_left
                 ·
                  rintro w' ⟨s0, s1, s2, s3⟩
                  (try simp only [add_plain] at s0 s1 s2 s3)
                  go_simp
                  with_reducible rfl
                 rotate_left
                 ·
                  simp only [Act.put, List.setIfInBounds_toArray, List.set_cons_zero, List.set_cons_succ, i64_w, i32_w]
                  rfl
                 refine take_ (i := 11) (N := some 84) (v := ?_) (a' := ?_) #[T, T, T, T, T, T, T, T, T, T, T, T, T, F, F, F, F, F] rfl rfl (take_ofW HT_.out HW_.out (by kernel_rfl)) (fun _ _ _ h => h) (Or.inl ⟨by rfl, ?_⟩) hHeld ?_ ?_
                 rotate_left
                 ·
                  rintro w' ⟨s0, s1, s2, s3⟩
                  (try simp only [add_plain] at s0 s1 s2 s3)
                  go_simp
                  with_reducible rfl
                 rotate_left
                 ·
                  simp only [Act.put, List.setIfInBounds_toArray, List.set_cons_zero, List.set_cons_succ, i64_w, i32_w]
                  rfl
                 refine pure_ (i := 13) (N := some 86) (v := ?_) (a' := ?_) #[T, T, T, T, T, T, T, T, T, T, T, T, T, T, F, F, F, F] rfl rfl (any_of HT_.out (by kernel_rfl)) (fun _ _ _ h => h) (Or.inl ⟨by rfl, ?_⟩) ?_ ?_
                 rotate_left
                 ·
                  intro w'
                  (try simp only [add_plain] at s0 s1 s2 s3)
                  go_simp
                  with_reducible rfl
                 rotate_left
                 ·
                  simp only [Act.put, List.setIfInBounds_toArray, List.set_cons_zero, List.set_cons_succ, i64_w, i32_w]
                  rfl
                 refine take_ (i := 14) (N := some 87) (v := ?_) (a' := ?_) #[T, T, T, T, T, T, T, T, T, T, T, T, T, T, T, F, F, F] rfl rfl (take_ofW HT_.out HW_.out (by kernel_rfl)) (fun _ _ _ h => h) (Or.inl ⟨by rfl, ?_⟩) hHeld ?_ ?_
                 rotate_left
                 ·
                  rintro w' ⟨s0, s1, s2, s3⟩
                  (try simp only [add_plain] at s0 s1 s2 s3)
                  go_simp
                  with_reducible rfl
                 rotate_left
                 ·
                  simp only [Act.put, List.setIfInBounds_toArray, List.set_cons_zero, List.set_cons_succ, i64_w, i32_w]
                  rfl
                 refine pure_ (i := 15) (N := some 88) (v := ?_) (a' := ?_) #[T, T, T, T, T, T, T, T, T, T, T, T, T, T, T, T, F, F] rfl rfl (any_of HT_.out (by kernel_rfl)) (fun _ _ _ h => h) (Or.inl ⟨by rfl, ?_⟩) ?_ ?_
                 rotate_left
                 ·
                  intro w'
                  (try simp only [add_plain] at s0 s1 s2 s3)
                  go_simp
                  with_reducible rfl
                 rotate_left
                 ·
                  simp only [Act.put, List.setIfInBounds_toArray, List.set_cons_zero, List.set_cons_succ, i64_w, i32_w]
                  rfl
                 refine pure_ (i := 16) (N := some 89) (v := ?_) (a' := ?_) #[T, T, T, T, T, T, T, T, T, T, T, T, T, T, T, T, T, F] rfl rfl (any_of HT_.out (by kernel_rfl)) (fun _ _ _ h => h) (Or.inl ⟨by rfl, ?_⟩) ?_ ?_
                 rotate_left
                 ·
                  intro w'
                  (try simp only [add_plain] at s0 s1 s2 s3)
                  go_simp
                  with_reducible rfl
                 rotate_left
                 ·
                  simp only [Act.put, List.setIfInBounds_toArray, List.set_cons_zero, List.set_cons_succ, i64_w, i32_w]
                  rfl
                 refine pure_ (i := 17) (N := some 16) (v := ?_) (a' := ?_) #[T, T, T, T, T, T, T, T, T, T, T, T, T, T, T, T, T, T] rfl rfl (any_of HT_.out (by kernel_rfl)) (fun _ _ _ h => h) (Or.inl ⟨by rfl, ?_⟩) ?_ ?_
                 rotate_left
                 ·
                  intro w'
                  (try simp only [add_plain] at s0 s1 s2 s3)
                  go_simp
                  with_reducible rfl
                 rotate_left
                 ·
                  simp only [Act.put, List.setIfInBounds_toArray, List.set_cons_zero, List.set_cons_succ, i64_w, i32_w]
                  rfl
                 refine done_ (done_of HT_.out (by kernel_rfl)) ?_
                 try go_wp2
                 go_roundg k3
                 case measure => have := HJ7.out; have := HK2.out; have := HK3.out; omega
                 case rel => exact ⟨((x16_3 + (((rd (rd_L1 l0 x17_3) x15_2) - (rd (rd_L1 l1 x17_3) x15_2)) % 4294967296)) % 4294967296), (wrap64 (x17_3 + 1)), (by first | rfl | (simp; done) | (simp [*]; done)), (by first | rfl | (simp; done) | (simp [*]; done)), H', ⟨by have := HJ7.out; have := HK2.out; have := HK3.out; omega⟩, ⟨by (with_reducible repeat (first | apply Kd.R_alloc | apply Kd.R_drewN | apply Kd.R_drew)); exact HO_271000.out⟩, ⟨by (with_reducible repeat (first | apply Kd.R_alloc | apply Kd.R_drewN | apply Kd.R_drew)); exact HO_271001.out⟩, ⟨by (with_reducible repeat (first | refine blk_drewN ?_ _ | refine blk_drew ?_ | refine blk_alloc ?_ _)); exact BK262.out⟩, ⟨by (with_reducible repeat (first | refine blk_drewN ?_ _ | refine blk_drew ?_ | refine blk_alloc ?_ _)); exact BK270.out⟩, ⟨by repeat (first | (with_reducible first | exact HB.out | apply below_alloc | apply pw_below_drewN | apply below_drew1 | refine below_set ?_ GE262.out | refine below_set ?_ GE270.out) | exact HB.out)⟩⟩
                ·
                 rw [if_neg c34] at H
                 exact absurd H (by simp)
               ·
                rw [if_neg c33] at H
                exact absurd H (by simp)
              ·
               rw [if_neg c32] at H
               exact absurd H (by simp)
             ·
              rw [if_neg c31] at H
              exact absurd H (by simp)
            ·
             rw [if_neg c30] at H
             exact absurd H (by simp)
           ·
            replace c29 := Bool.eq_false_iff.mpr c29
            subst c29
            have H1 : (offertorylaw25_IdealHides.l1 k3 l0 l1 a3 a4 t269 x14_2 x15_2 x16_3 (wrap64 (x17_3 + 1)) l2_0 l2_1 t263 t266) = some r := by rw [if_neg (show ¬ (false = true) by decide)] at H; exact H
            clear H
            have H := H1
            clear H1
            have H' := Aside0.mk H
            clear H
            go_wp2_with (first | ((with_reducible refine gate_callee (f := 14) rfl ?_); refine goesL_ (some 72) rfl rfl Tryd.func14 (by kernel_rfl) rfl #[.int .u64 a4, .int .i64 x17_3] rfl (by (try simp only [List.map_toArray, List.map_cons, List.map_nil]); first | done | rfl | (simp only [List.length_drop, List.length_take]; rfl)) ?_; (with_reducible refine (offertorylaw25_in.calls a4 x17_3 false _ A28.out).mono ?_); rintro e w' ⟨rfl, ⟨nd, rfl⟩⟩; refine ⟨_, rfl, ?_⟩))
            go_roundg k3
            case measure => have := HJ7.out; have := HK2.out; have := HK3.out; omega
            case rel => exact ⟨(x16_3), (wrap64 (x17_3 + 1)), (by first | rfl | (simp; done) | (simp [*]; done)), (by first | rfl | (simp; done) | (simp [*]; done)), H', ⟨by have := HJ7.out; have := HK2.out; have := HK3.out; omega⟩, ⟨by (with_reducible repeat (first | apply Kd.R_alloc | apply Kd.R_drewN | apply Kd.R_drew)); exact HO_271000.out⟩, ⟨by (with_reducible repeat (first | apply Kd.R_alloc | apply Kd.R_drewN | apply Kd.R_drew)); exact HO_271001.out⟩, ⟨by (with_reducible repeat (first | refine blk_drewN ?_ _ | refine blk_drew ?_ | refine blk_alloc ?_ _)); exact BK262.out⟩, ⟨by (with_reducible repeat (first | refine blk_drewN ?_ _ | refine blk_drew ?_ | refine blk_alloc ?_ _)); exact BK270.out⟩, ⟨by repeat (first | (with_reducible first | exact HB.out | apply below_alloc | apply pw_below_drewN | apply below_drew1 | refine below_set ?_ GE262.out | refine below_set ?_ GE270.out) | exact HB.out)⟩⟩
          ·
           rw [if_neg c27] at H
           have c27b0 : decide (x17_3 < (l0.length : Int)) = false := decide_eq_false c27
           clear c27
           by_cases c36 : x14_2 = true
           ·
            subst c36
            have H1 : (offertorylaw25_IdealHides.l0 k3 l0 l1 a3 a4 t269 (x16_3 == 0) (wrap64 (x15_2 + 1)) l2_0 l2_1 t263 t266) = some r := by rw [if_pos rfl] at H; exact H
            clear H
            have H := H1
            clear H1
            have H' := Aside0.mk H
            clear H
            go_wp2
            go_roundg k3
            case measure => have := HJ7.out; have := HK2.out; have := HK3.out; omega
            case rel => exact ⟨((x16_3 == 0)), (wrap64 (x15_2 + 1)), (by first | rfl | (simp; done) | (simp [*]; done)), (by first | rfl | (simp; done) | (simp [*]; done)), H', ⟨by have := HJ7.out; have := HK2.out; have := HK3.out; omega⟩, ⟨by (with_reducible repeat (first | apply Kd.R_alloc | apply Kd.R_drewN | apply Kd.R_drew)); exact HO_271000.out⟩, ⟨by (with_reducible repeat (first | apply Kd.R_alloc | apply Kd.R_drewN | apply Kd.R_drew)); exact HO_271001.out⟩, ⟨by (with_reducible repeat (first | refine blk_drewN ?_ _ | refine blk_drew ?_ | refine blk_alloc ?_ _)); exact BK262.out⟩, ⟨by (with_reducible repeat (first | refine blk_drewN ?_ _ | refine blk_drew ?_ | refine blk_alloc ?_ _)); exact BK270.out⟩, ⟨by repeat (first | (with_reducible first | exact HB.out | apply below_alloc | apply pw_below_drewN | apply below_drew1 | refine below_set ?_ GE262.out | refine below_set ?_ GE270.out) | exact HB.out)⟩⟩
           ·
            replace c36 := Bool.eq_false_iff.mpr c36
            subst c36
            have H1 : (offertorylaw25_IdealHides.l0 k3 l0 l1 a3 a4 t269 false (wrap64 (x15_2 + 1)) l2_0 l2_1 t263 t266) = some r := by rw [if_neg (show ¬ (false = true) by decide)] at H; exact H
            clear H
            have H := H1
            clear H1
            have H' := Aside0.mk H
            clear H
            go_wp2
            go_roundg k3
            case measure => have := HJ7.out; have := HK2.out; have := HK3.out; omega
            case rel => exact ⟨(false), (wrap64 (x15_2 + 1)), (by first | rfl | (simp; done) | (simp [*]; done)), (by first | rfl | (simp; done) | (simp [*]; done)), H', ⟨by have := HJ7.out; have := HK2.out; have := HK3.out; omega⟩, ⟨by (with_reducible repeat (first | apply Kd.R_alloc | apply Kd.R_drewN | apply Kd.R_drew)); exact HO_271000.out⟩, ⟨by (with_reducible repeat (first | apply Kd.R_alloc | apply Kd.R_drewN | apply Kd.R_drew)); exact HO_271001.out⟩, ⟨by (with_reducible repeat (first | refine blk_drewN ?_ _ | refine blk_drew ?_ | refine blk_alloc ?_ _)); exact BK262.out⟩, ⟨by (with_reducible repeat (first | refine blk_drewN ?_ _ | refine blk_drew ?_ | refine blk_alloc ?_ _)); exact BK270.out⟩, ⟨by repeat (first | (with_reducible first | exact HB.out | apply below_alloc | apply pw_below_drewN | apply below_drew1 | refine below_set ?_ GE262.out | refine below_set ?_ GE270.out) | exact HB.out)⟩⟩
       ·
        rw [if_neg c26] at H
        have c26b0 : decide (x15_2 < ((rd_L1 l0 0).length : Int)) = false := decide_eq_false c26
        clear c26
        by_cases c37 : x14_2 = true
        ·
         subst c37
         have H1 : ((ideal_See.f k2 l0 l2_0 l2_1 a3 a4).bind fun bt283 => ((ideal_See.f k2 l1 t263 t266 a3 a4).bind fun bt294 => ((offertorylaw25_awake.f).bind fun t305 => (if t305 = true then (if t269 = 0 then (if bt283.2.2.2 = 0 then (if bt294.2.2.2 = 0 then ((offertorylaw25_sound.f k2 t263 t266 (l0.length : Int) ((rd_L1 l0 0).length : Int)).bind fun t307 => (if t307 = true then ((ideal_Same.f k2 bt283.1 bt283.2.1 bt283.2.2.1 bt294.1 bt294.2.1 bt294.2.2.1).bind fun t308 => (some t308)) else (none))) else (none)) else (none)) else (none)) else (none))))) = some r := by rw [if_pos rfl] at H; exact H
         clear H
         have H := H1
         clear H1
         replace H := Option.bind_eq_some_iff.mp H
         obtain ⟨⟨t283, t286, t289, t292⟩, A380, H⟩ := H
         replace H : ((ideal_See.f k2 l1 t263 t266 a3 a4).bind fun bt294 => ((offertorylaw25_awake.f).bind fun t305 => (if t305 = true then (if t269 = 0 then (if t292 = 0 then (if bt294.2.2.2 = 0 then ((offertorylaw25_sound.f k2 t263 t266 (l0.length : Int) ((rd_L1 l0 0).length : Int)).bind fun t307 => (if t307 = true then ((ideal_Same.f k2 t283 t286 t289 bt294.1 bt294.2.1 bt294.2.2.1).bind fun t308 => (some t308)) else (none))) else (none)) else (none)) else (none)) else (none)))) = some r := H
         have A38 := Aside0.mk A380
         clear A380
         replace H := Option.bind_eq_some_iff.mp H
         obtain ⟨⟨t294, t297, t300, t303⟩, A390, H⟩ := H
         replace H : ((offertorylaw25_awake.f).bind fun t305 => (if t305 = true then (if t269 = 0 then (if t292 = 0 then (if t303 = 0 then ((offertorylaw25_sound.f k2 t263 t266 (l0.length : Int) ((rd_L1 l0 0).length : Int)).bind fun t307 => (if t307 = true then ((ideal_Same.f k2 t283 t286 t289 t294 t297 t300).bind fun t308 => (some t308)) else (none))) else (none)) else (none)) else (none)) else (none))) = some r := H
         have A39 := Aside0.mk A390
         clear A390
         replace H := Option.bind_eq_some_iff.mp H
         obtain ⟨t305, A400, H⟩ := H
         replace H : (if t305 = true then (if t269 = 0 then (if t292 = 0 then (if t303 = 0 then ((offertorylaw25_sound.f k2 t263 t266 (l0.length : Int) ((rd_L1 l0 0).length : Int)).bind fun t307 => (if t307 = true then ((ideal_Same.f k2 t283 t286 t289 t294 t297 t300).bind fun t308 => (some t308)) else (none))) else (none)) else (none)) else (none)) else (none)) = some r := H
         have A40 := Aside0.mk A400
         clear A400
         by_cases c41 : t305 = true
         ·
          subst c41
          have H1 : (if t269 = 0 then (if t292 = 0 then (if t303 = 0 then ((offertorylaw25_sound.f k2 t263 t266 (l0.length : Int) ((rd_L1 l0 0).length : Int)).bind fun t307 => (if t307 = true then ((ideal_Same.f k2 t283 t286 t289 t294 t297 t300).bind fun t308 => (some t308)) else (none))) else (none)) else (none)) else (none)) = some r := by rw [if_pos rfl] at H; exact H
          clear H
          have H := H1
          clear H1
          by_cases c42 : t269 = 0
          ·
           rw [if_pos c42] at H
           have c42b0 : (t269 == 0) = true := beq_iff_eq.mpr c42
           have c42b1 : (t269 != 0) = false := bne_eq_false_iff_eq.mpr c42
           clear c42
           by_cases c43 : t292 = 0
           ·
            rw [if_pos c43] at H
            have c43b0 : (t292 == 0) = true := beq_iff_eq.mpr c43
            have c43b1 : (t292 != 0) = false := bne_eq_false_iff_eq.mpr c43
            clear c43
            by_cases c44 : t303 = 0
            ·
             rw [if_pos c44] at H
             have c44b0 : (t303 == 0) = true := beq_iff_eq.mpr c44
             have c44b1 : (t303 != 0) = false := bne_eq_false_iff_eq.mpr c44
             clear c44
             replace H := Option.bind_eq_some_iff.mp H
             obtain ⟨t307, A450, H⟩ := H
             replace H : (if t307 = true then ((ideal_Same.f k2 t283 t286 t289 t294 t297 t300).bind fun t308 => (some t308)) else (none)) = some r := H
             have A45 := Aside0.mk A450
             clear A450
             by_cases c46 : t307 = true
             ·
              subst c46
              have H1 : ((ideal_Same.f k2 t283 t286 t289 t294 t297 t300).bind fun t308 => (some t308)) = some r := by rw [if_pos rfl] at H; exact H
              clear H
              have H := H1
              clear H1
              replace H := Option.bind_eq_some_iff.mp H
              obtain ⟨t308, A470, H⟩ := H
              replace H : (some t308) = some r := H
              have A47 := Aside0.mk A470
              clear A470
              obtain rfl := Option.some.inj H
              have p275 : 0 ≤ (0 : Int) := (by omega)
              have q275 : 0 < (l0.length : Int) := of_decide_eq_true (by first | (with_reducible assumption) | assumption)
              obtain ⟨ad275, A275_0, c275_0, e275, hx275_0, hl275_0, hi275_0⟩ := at_L1 HR0.out 0 p275 q275
              cases e275
              have qi275 : (0 < l0.length) = True := eq_true (by omega)
              (try rw [show ((0 : Int)).toNat = 0 from rfl] at hx275_0)
              (try rw [Addr.add_zero'] at hx275_0)
              replace hx275_0 := (HB.out.cell (World.block_lt_of_cell? w _ hx275_0)).trans hx275_0
              have HR275_0 := Aside0.mk hi275_0
              have HC275_0 := Aside0.mk hl275_0
              clear hi275_0 hl275_0
              replace p275 := eq_true p275
              replace q275 := eq_true q275
              have hnb48 := NB262_270.out
              have hnc48 := NB270_262.out
              have hcz49_0 : wr.cell? ⟨gb262, 0, none⟩ = some (.slice A2_0 l2_0.length c2_0) := (blk_cell BK262.out 0).trans rfl
              have hcz49_1 : wr.cell? ⟨gb262, 1, none⟩ = some (.slice A2_1 l2_1.length c2_1) := (blk_cell BK262.out 1).trans rfl
              have hfz49_0 := blk_frozen BK262.out 0
              have hfz49_1 := blk_frozen BK262.out 1
              try go_wp2_with (first | ((with_reducible refine gate_callee (f := 12) rfl ?_); refine goesL_ (some 112) rfl rfl Tryd.func12 (by kernel_rfl) rfl #[.slice (some ad275) l0.length c0, .agg #[.slice A2_0 l2_0.length c2_0, .slice A2_1 l2_1.length c2_1], .int .u64 a3, .int .u64 a4] rfl (by (try simp only [List.map_toArray, List.map_cons, List.map_nil]); first | done | rfl | (simp only [List.length_drop, List.length_take]; rfl)) ?_; (with_reducible refine (ideal_See.calls k2 _ _ l0 _ _ l2_0 _ _ l2_1 a3 a4 t283 t286 t289 t292 _ ?side1 ?side2 ?side3 ?side4 ?side5 ?side6 (HTab.out.step (by repeat (first | (with_reducible first | exact HB.out | apply below_alloc | apply pw_below_drewN | apply below_drew1 | refine below_set ?_ (Aside0.out (by assumption))) | exact HB.out | refine below_set ?_ (Aside0.out (by assumption))))) A38.out).mono ?_); (case side1 => repeat (first | exact (Kd.C_below HR0.out HB.out) | (with_reducible refine Kd.C_alloc ?_ _) | (with_reducible refine Kd.C_drewN ?_ _) | (with_reducible refine Kd.C_drew ?_))); (case side2 => exact HC0.out); (case side3 => repeat (first | exact (Kd.C_below HR2_0.out HB.out) | (with_reducible refine Kd.C_alloc ?_ _) | (with_reducible refine Kd.C_drewN ?_ _) | (with_reducible refine Kd.C_drew ?_))); (case side4 => exact HC2_0.out); (case side5 => repeat (first | exact (Kd.C_below HR2_1.out HB.out) | (with_reducible refine Kd.C_alloc ?_ _) | (with_reducible refine Kd.C_drewN ?_ _) | (with_reducible refine Kd.C_drew ?_))); (case side6 => exact HC2_1.out); rintro e w50 ⟨v284, v287, v290, rfl, ho0, ho1, ho2, hb⟩; refine ⟨_, rfl, ?_⟩; have n0_ := Aside0.mk (Kd.R_mono (Kd.R_told (Kd.R_told (Kd.R_old (by (with_reducible repeat (first | apply Kd.R_alloc | apply Kd.R_drewN | apply Kd.R_drew)); exact HO_271000.out) hb) (Kd.R_base ho0)) (Kd.R_base ho1)) (fun _ h_ => h_.1)); have n1_ := Aside0.mk (Kd.R_mono (Kd.R_told (Kd.R_told (Kd.R_told (Kd.R_old (by (with_reducible repeat (first | apply Kd.R_alloc | apply Kd.R_drewN | apply Kd.R_drew)); exact HO_271001.out) hb) (Kd.R_base ho0)) (Kd.R_base ho1)) (Kd.R_base ho2)) (fun _ h_ => h_.1)); have n2_ := Aside0.mk (Kd.R_lower (Kd.R_new' ho0 (Kd.R_lt (by (with_reducible repeat (first | apply Kd.R_alloc | apply Kd.R_drewN | apply Kd.R_drew)); exact HO_271000.out))) (below_size (by repeat (first | (with_reducible first | exact HB.out | apply below_alloc | apply pw_below_drewN | apply below_drew1 | refine below_set ?_ GE262.out | refine below_set ?_ GE270.out) | exact HB.out)))); have n3_ := Aside0.mk (Kd.R_lower (Kd.R_new' ho1 (Kd.R_lt (by (with_reducible repeat (first | apply Kd.R_alloc | apply Kd.R_drewN | apply Kd.R_drew)); exact HO_271000.out))) (below_size (by repeat (first | (with_reducible first | exact HB.out | apply below_alloc | apply pw_below_drewN | apply below_drew1 | refine below_set ?_ GE262.out | refine below_set ?_ GE270.out) | exact HB.out)))); have n4_ := Aside0.mk (Kd.R_lower (Kd.R_new' (Kd.R_new' ho2 (Kd.R_lt (by (with_reducible repeat (first | apply Kd.R_alloc | apply Kd.R_drewN | apply Kd.R_drew)); exact HO_271000.out))) (Kd.R_lt (by (with_reducible repeat (first | apply Kd.R_alloc | apply Kd.R_drewN | apply Kd.R_drew)); exact HO_271001.out))) (below_size (by repeat (first | (with_reducible first | exact HB.out | apply below_alloc | apply pw_below_drewN | apply below_drew1 | refine below_set ?_ GE262.out | refine below_set ?_ GE270.out) | exact HB.out)))); have n5_ := offertorylaw25_IdealHides.keepB BK262 hb; have n6_ := offertorylaw25_IdealHides.keepB BK270 hb; have n7_ := Aside0.mk (below_step (by repeat (first | (with_reducible first | exact HB.out | apply below_alloc | apply pw_below_drewN | apply below_drew1 | refine below_set ?_ GE262.out | refine below_set ?_ GE270.out) | exact HB.out)) hb); clear HO_271000; clear HO_271001; clear BK262; clear BK270; clear HB; have HO_271000 := n0_; have HO_271001 := n1_; have HO285 := n2_; have HO288 := n3_; have HO291 := n4_; have BK262 := n5_; have BK270 := n6_; have HB := n7_; clear n0_ n1_ n2_ n3_ n4_ n5_ n6_ n7_; (try clear hb); (try clear hb2); (try clear hk); (try clear hi); (try clear ho0); (try clear ho1); (try clear ho2)) | ((with_reducible refine gate_dst (N := 18) rfl ?_); (try (refine gate_guard (by rfl) ?_; dsimp only)); refine box_event ?hg (N := 18) ?hd (cs := #[.slice none 0 0, .slice none 0 0, .slice none 0 0]) (t := 30) ?hr ?_; (case hd => rfl); (case hg => rfl); (case hr => first | (go_simp; done) | (go_simp; rfl)); intro gb293 hg w51 hbox hb; have n0_ := Aside0.mk (Kd.R_below (by (with_reducible repeat (first | apply Kd.R_alloc | apply Kd.R_drewN | apply Kd.R_drew)); exact HO_271000.out) hb); have n1_ := Aside0.mk (Kd.R_below (by (with_reducible repeat (first | apply Kd.R_alloc | apply Kd.R_drewN | apply Kd.R_drew)); exact HO_271001.out) hb); have n2_ := Aside0.mk (Kd.R_below (by (with_reducible repeat (first | apply Kd.R_alloc | apply Kd.R_drewN | apply Kd.R_drew)); exact HO285.out) hb); have n3_ := Aside0.mk (Kd.R_below (by (with_reducible repeat (first | apply Kd.R_alloc | apply Kd.R_drewN | apply Kd.R_drew)); exact HO288.out) hb); have n4_ := Aside0.mk (Kd.R_below (by (with_reducible repeat (first | apply Kd.R_alloc | apply Kd.R_drewN | apply Kd.R_drew)); exact HO291.out) hb); have n5_ := offertorylaw25_IdealHides.keepB BK262 hb; have n6_ := offertorylaw25_IdealHides.keepB BK270 hb; have n7_ := Aside0.mk (below_step (by repeat (first | (with_reducible first | exact HB.out | apply below_alloc | apply pw_below_drewN | apply below_drew1 | refine below_set ?_ GE262.out | refine below_set ?_ GE270.out) | exact HB.out)) hb); have n8_ := Aside0.mk (hbox); have n9_ := Aside0.mk ((by rw [hg]; exact (below_size (by repeat (first | (with_reducible first | exact HB.out | apply below_alloc | apply pw_below_drewN | apply below_drew1 | refine below_set ?_ GE262.out | refine below_set ?_ GE270.out) | exact HB.out))) : w.heap.size ≤ gb293)); have n10_ := Aside0.mk ((by rw [hg]; exact (below_size (by repeat (first | (with_reducible first | exact HB.out | apply below_alloc | apply pw_below_drewN | apply below_drew1 | refine below_set ?_ GE262.out | refine below_set ?_ GE270.out) | exact HB.out))) : w.heap.size ≤ gb293)); have n11_ := offertorylaw25_IdealHides.neL BK262 hg; have n12_ := offertorylaw25_IdealHides.neG BK262 hg; have n13_ := offertorylaw25_IdealHides.neL BK270 hg; have n14_ := offertorylaw25_IdealHides.neG BK270 hg; clear HO_271000; clear HO_271001; clear HO285; clear HO288; clear HO291; clear BK262; clear BK270; clear HB; have HO_271000 := n0_; have HO_271001 := n1_; have HO285 := n2_; have HO288 := n3_; have HO291 := n4_; have BK262 := n5_; have BK270 := n6_; have HB := n7_; have BK293 := n8_; have GW293 := n9_; have GE293 := n10_; have NB262_293 := n11_; have NB293_262 := n12_; have NB270_293 := n13_; have NB293_270 := n14_; clear n0_ n1_ n2_ n3_ n4_ n5_ n6_ n7_ n8_ n9_ n10_ n11_ n12_ n13_ n14_; clear hb hbox hg; obtain ⟨Ao52, co52, eo52⟩ := Kd.R_slice HO285.out; subst eo52; have hnb53 := NB293_262.out; have hnc53 := NB262_293.out; have hnb54 := NB293_270.out; have hnc54 := NB270_293.out; have hcz55_0 : w51.cell? ⟨gb293, 0, none⟩ = some (.slice none 0 0) := (blk_cell BK293.out 0).trans rfl; have hcz55_1 : w51.cell? ⟨gb293, 1, none⟩ = some (.slice none 0 0) := (blk_cell BK293.out 1).trans rfl; have hcz55_2 : w51.cell? ⟨gb293, 2, none⟩ = some (.slice none 0 0) := (blk_cell BK293.out 2).trans rfl; have hfz55_0 := blk_frozen BK293.out 0; have hfz55_1 := blk_frozen BK293.out 1; have hfz55_2 := blk_frozen BK293.out 2; obtain ⟨Ao56, co56, eo56⟩ := Kd.R_slice HO288.out; subst eo56; obtain ⟨Ao57, co57, eo57⟩ := Kd.R_slice HO291.out; subst eo57; have hcz58_0 : w51.cell? ⟨gb270, 0, none⟩ = some (.slice Ao13 t263.length co13) := (blk_cell BK270.out 0).trans rfl; have hcz58_1 : w51.cell? ⟨gb270, 1, none⟩ = some (.slice Ao16 t266.length co16) := (blk_cell BK270.out 1).trans rfl; have hfz58_0 := blk_frozen BK270.out 0; have hfz58_1 := blk_frozen BK270.out 1) | ((with_reducible refine gate_callee (f := 12) rfl ?_); refine goesL_ (some 120) rfl rfl Tryd.func12 (by kernel_rfl) rfl #[.slice A1 l1.length c1, .agg #[.slice Ao13 t263.length co13, .slice Ao16 t266.length co16], .int .u64 a3, .int .u64 a4] rfl (by (try simp only [List.map_toArray, List.map_cons, List.map_nil]); first | done | rfl | (simp only [List.length_drop, List.length_take]; rfl)) ?_; (with_reducible refine (ideal_See.calls k2 _ _ l1 _ _ t263 _ _ t266 a3 a4 t294 t297 t300 t303 _ ?side1 ?side2 ?side3 ?side4 ?side5 ?side6 (HTab.out.step (by repeat (first | (with_reducible first | exact HB.out | apply below_alloc | apply pw_below_drewN | apply below_drew1 | refine below_set ?_ (Aside0.out (by assumption))) | exact HB.out | refine below_set ?_ (Aside0.out (by assumption))))) A39.out).mono ?_); (case side1 => exact Kd.C_below HR1.out (by repeat (first | (with_reducible first | exact HB.out | apply below_alloc | apply pw_below_drewN | apply below_drew1 | refine below_set ?_ GE262.out | refine below_set ?_ GE270.out | refine below_set ?_ GE293.out) | exact HB.out))); (case side2 => exact HC1.out); (case side3 => refine (Kd.R_reads' (e := 35) (base := w.heap.size) (ok := fun k_ => ((True ∧ some k_ ≠ (.slice Ao52 t283.length co52 : Value).ownBlock) ∧ some k_ ≠ (.slice Ao56 t286.length co56 : Value).ownBlock)) (n := t263.length) (c := co13) ?_).2.2; exact (by (with_reducible repeat (first | apply Kd.R_alloc | apply Kd.R_drewN | apply Kd.R_drew)); exact (Kd.R_mono (Kd.R_far (p := ⟨gb293, 2, none⟩) (Kd.R_far (p := ⟨gb293, 1, none⟩) (Kd.R_far (p := ⟨gb293, 0, none⟩) (Kd.R_types HO_271000.out BK293.out (by decide)) (fun _ hk => hk.2) (.slice Ao52 t283.length co52)) (fun _ hk => hk.2) (.slice Ao56 t286.length co56)) (fun _ hk => hk.2) (.slice Ao57 t289.length co57)) (fun _ h_ => h_.1)))); (case side4 => exact (Kd.R_reads' HO_271000.out).2.1); (case side5 => refine (Kd.R_reads' (e := 22) (base := w.heap.size) (ok := fun k_ => (((some k_ ≠ (.slice Ao13 t263.length co13 : Value).ownBlock ∧ some k_ ≠ (.slice Ao52 t283.length co52 : Value).ownBlock) ∧ some k_ ≠ (.slice Ao56 t286.length co56 : Value).ownBlock) ∧ some k_ ≠ (.slice Ao57 t289.length co57 : Value).ownBlock)) (n := t266.length) (c := co16) ?_).2.2; exact (by (with_reducible repeat (first | apply Kd.R_alloc | apply Kd.R_drewN | apply Kd.R_drew)); exact (Kd.R_mono (Kd.R_far (p := ⟨gb293, 2, none⟩) (Kd.R_far (p := ⟨gb293, 1, none⟩) (Kd.R_far (p := ⟨gb293, 0, none⟩) (Kd.R_types HO_271001.out BK293.out (by decide)) (fun _ hk => hk.2) (.slice Ao52 t283.length co52)) (fun _ hk => hk.2) (.slice Ao56 t286.length co56)) (fun _ hk => hk.2) (.slice Ao57 t289.length co57)) (fun _ h_ => h_.1)))); (case side6 => exact (Kd.R_reads' HO_271001.out).2.1); rintro e w59 ⟨v295, v298, v301, rfl, ho0, ho1, ho2, hb⟩; refine ⟨_, rfl, ?_⟩; have n0_ := Aside0.mk (Kd.R_mono (Kd.R_told (Kd.R_told (Kd.R_old (by (with_reducible repeat (first | apply Kd.R_alloc | apply Kd.R_drewN | apply Kd.R_drew)); exact (Kd.R_mono (Kd.R_far (p := ⟨gb293, 2, none⟩) (Kd.R_far (p := ⟨gb293, 1, none⟩) (Kd.R_far (p := ⟨gb293, 0, none⟩) (Kd.R_types HO_271000.out BK293.out (by decide)) (fun _ hk => hk.2) (.slice Ao52 t283.length co52)) (fun _ hk => hk.2) (.slice Ao56 t286.length co56)) (fun _ hk => hk.2) (.slice Ao57 t289.length co57)) (fun _ h_ => h_.1))) hb) (Kd.R_base ho0)) (Kd.R_base ho1)) (fun _ h_ => h_.1)); have n1_ := Aside0.mk (Kd.R_mono (Kd.R_told (Kd.R_told (Kd.R_told (Kd.R_old (by (with_reducible repeat (first | apply Kd.R_alloc | apply Kd.R_drewN | apply Kd.R_drew)); exact (Kd.R_mono (Kd.R_far (p := ⟨gb293, 2, none⟩) (Kd.R_far (p := ⟨gb293, 1, none⟩) (Kd.R_far (p := ⟨gb293, 0, none⟩) (Kd.R_types HO_271001.out BK293.out (by decide)) (fun _ hk => hk.2) (.slice Ao52 t283.length co52)) (fun _ hk => hk.2) (.slice Ao56 t286.length co56)) (fun _ hk => hk.2) (.slice Ao57 t289.length co57)) (fun _ h_ => h_.1))) hb) (Kd.R_base ho0)) (Kd.R_base ho1)) (Kd.R_base ho2)) (fun _ h_ => h_.1)); have n2_ := Aside0.mk (Kd.R_mono (Kd.R_told (Kd.R_told (Kd.R_old (by (with_reducible repeat (first | apply Kd.R_alloc | apply Kd.R_drewN | apply Kd.R_drew)); exact (Kd.R_mono (Kd.R_far (p := ⟨gb293, 2, none⟩) (Kd.R_far (p := ⟨gb293, 1, none⟩) (Kd.R_far (p := ⟨gb293, 0, none⟩) (Kd.R_types HO285.out BK293.out (by decide)) (fun _ hk => hk.2) (.slice Ao52 t283.length co52)) (fun _ hk => hk.2) (.slice Ao56 t286.length co56)) (fun _ hk => hk.2) (.slice Ao57 t289.length co57)) (fun _ h_ => h_.1))) hb) (Kd.R_base ho0)) (Kd.R_base ho1)) (fun _ h_ => h_.1)); have n3_ := Aside0.mk (Kd.R_mono (Kd.R_told (Kd.R_told (Kd.R_old (by (with_reducible repeat (first | apply Kd.R_alloc | apply Kd.R_drewN | apply Kd.R_drew)); exact (Kd.R_mono (Kd.R_far (p := ⟨gb293, 2, none⟩) (Kd.R_far (p := ⟨gb293, 1, none⟩) (Kd.R_far (p := ⟨gb293, 0, none⟩) (Kd.R_types HO288.out BK293.out (by decide)) (fun _ hk => hk.2) (.slice Ao52 t283.length co52)) (fun _ hk => hk.2) (.slice Ao56 t286.length co56)) (fun _ hk => hk.2) (.slice Ao57 t289.length co57)) (fun _ h_ => h_.1))) hb) (Kd.R_base ho0)) (Kd.R_base ho1)) (fun _ h_ => h_.1)); have n4_ := Aside0.mk (Kd.R_mono (Kd.R_told (Kd.R_told (Kd.R_told (Kd.R_old (by (with_reducible repeat (first | apply Kd.R_alloc | apply Kd.R_drewN | apply Kd.R_drew)); exact (Kd.R_mono (Kd.R_far (p := ⟨gb293, 2, none⟩) (Kd.R_far (p := ⟨gb293, 1, none⟩) (Kd.R_far (p := ⟨gb293, 0, none⟩) (Kd.R_types HO291.out BK293.out (by decide)) (fun _ hk => hk.2) (.slice Ao52 t283.length co52)) (fun _ hk => hk.2) (.slice Ao56 t286.length co56)) (fun _ hk => hk.2) (.slice Ao57 t289.length co57)) (fun _ h_ => h_.1))) hb) (Kd.R_base ho0)) (Kd.R_base ho1)) (Kd.R_base ho2)) (fun _ h_ => h_.1)); have n5_ := Aside0.mk (Kd.R_lower (Kd.R_new' (Kd.R_new' (Kd.R_new' ho0 (Kd.R_lt (by (with_reducible repeat (first | apply Kd.R_alloc | apply Kd.R_drewN | apply Kd.R_drew)); exact (Kd.R_mono (Kd.R_far (p := ⟨gb293, 2, none⟩) (Kd.R_far (p := ⟨gb293, 1, none⟩) (Kd.R_far (p := ⟨gb293, 0, none⟩) (Kd.R_types HO_271000.out BK293.out (by decide)) (fun _ hk => hk.2) (.slice Ao52 t283.length co52)) (fun _ hk => hk.2) (.slice Ao56 t286.length co56)) (fun _ hk => hk.2) (.slice Ao57 t289.length co57)) (fun _ h_ => h_.1))))) (Kd.R_lt (by (with_reducible repeat (first | apply Kd.R_alloc | apply Kd.R_drewN | apply Kd.R_drew)); exact (Kd.R_mono (Kd.R_far (p := ⟨gb293, 2, none⟩) (Kd.R_far (p := ⟨gb293, 1, none⟩) (Kd.R_far (p := ⟨gb293, 0, none⟩) (Kd.R_types HO285.out BK293.out (by decide)) (fun _ hk => hk.2) (.slice Ao52 t283.length co52)) (fun _ hk => hk.2) (.slice Ao56 t286.length co56)) (fun _ hk => hk.2) (.slice Ao57 t289.length co57)) (fun _ h_ => h_.1))))) (Kd.R_lt (by (with_reducible repeat (first | apply Kd.R_alloc | apply Kd.R_drewN | apply Kd.R_drew)); exact (Kd.R_mono (Kd.R_far (p := ⟨gb293, 2, none⟩) (Kd.R_far (p := ⟨gb293, 1, none⟩) (Kd.R_far (p := ⟨gb293, 0, none⟩) (Kd.R_types HO288.out BK293.out (by decide)) (fun _ hk => hk.2) (.slice Ao52 t283.length co52)) (fun _ hk => hk.2) (.slice Ao56 t286.length co56)) (fun _ hk => hk.2) (.slice Ao57 t289.length co57)) (fun _ h_ => h_.1))))) (below_size (by repeat (first | (with_reducible first | exact HB.out | apply below_alloc | apply pw_below_drewN | apply below_drew1 | refine below_set ?_ GE262.out | refine below_set ?_ GE270.out | refine below_set ?_ GE293.out) | exact HB.out)))); have n6_ := Aside0.mk (Kd.R_lower (Kd.R_new' (Kd.R_new' (Kd.R_new' ho1 (Kd.R_lt (by (with_reducible repeat (first | apply Kd.R_alloc | apply Kd.R_drewN | apply Kd.R_drew)); exact (Kd.R_mono (Kd.R_far (p := ⟨gb293, 2, none⟩) (Kd.R_far (p := ⟨gb293, 1, none⟩) (Kd.R_far (p := ⟨gb293, 0, none⟩) (Kd.R_types HO_271000.out BK293.out (by decide)) (fun _ hk => hk.2) (.slice Ao52 t283.length co52)) (fun _ hk => hk.2) (.slice Ao56 t286.length co56)) (fun _ hk => hk.2) (.slice Ao57 t289.length co57)) (fun _ h_ => h_.1))))) (Kd.R_lt (by (with_reducible repeat (first | apply Kd.R_alloc | apply Kd.R_drewN | apply Kd.R_drew)); exact (Kd.R_mono (Kd.R_far (p := ⟨gb293, 2, none⟩) (Kd.R_far (p := ⟨gb293, 1, none⟩) (Kd.R_far (p := ⟨gb293, 0, none⟩) (Kd.R_types HO285.out BK293.out (by decide)) (fun _ hk => hk.2) (.slice Ao52 t283.length co52)) (fun _ hk => hk.2) (.slice Ao56 t286.length co56)) (fun _ hk => hk.2) (.slice Ao57 t289.length co57)) (fun _ h_ => h_.1))))) (Kd.R_lt (by (with_reducible repeat (first | apply Kd.R_alloc | apply Kd.R_drewN | apply Kd.R_drew)); exact (Kd.R_mono (Kd.R_far (p := ⟨gb293, 2, none⟩) (Kd.R_far (p := ⟨gb293, 1, none⟩) (Kd.R_far (p := ⟨gb293, 0, none⟩) (Kd.R_types HO288.out BK293.out (by decide)) (fun _ hk => hk.2) (.slice Ao52 t283.length co52)) (fun _ hk => hk.2) (.slice Ao56 t286.length co56)) (fun _ hk => hk.2) (.slice Ao57 t289.length co57)) (fun _ h_ => h_.1))))) (below_size (by repeat (first | (with_reducible first | exact HB.out | apply below_alloc | apply pw_below_drewN | apply below_drew1 | refine below_set ?_ GE262.out | refine below_set ?_ GE270.out | refine below_set ?_ GE293.out) | exact HB.out)))); have n7_ := Aside0.mk (Kd.R_lower (Kd.R_new' (Kd.R_new' (Kd.R_new' (Kd.R_new' (Kd.R_new' ho2 (Kd.R_lt (by (with_reducible repeat (first | apply Kd.R_alloc | apply Kd.R_drewN | apply Kd.R_drew)); exact (Kd.R_mono (Kd.R_far (p := ⟨gb293, 2, none⟩) (Kd.R_far (p := ⟨gb293, 1, none⟩) (Kd.R_far (p := ⟨gb293, 0, none⟩) (Kd.R_types HO_271000.out BK293.out (by decide)) (fun _ hk => hk.2) (.slice Ao52 t283.length co52)) (fun _ hk => hk.2) (.slice Ao56 t286.length co56)) (fun _ hk => hk.2) (.slice Ao57 t289.length co57)) (fun _ h_ => h_.1))))) (Kd.R_lt (by (with_reducible repeat (first | apply Kd.R_alloc | apply Kd.R_drewN | apply Kd.R_drew)); exact (Kd.R_mono (Kd.R_far (p := ⟨gb293, 2, none⟩) (Kd.R_far (p := ⟨gb293, 1, none⟩) (Kd.R_far (p := ⟨gb293, 0, none⟩) (Kd.R_types HO_271001.out BK293.out (by decide)) (fun _ hk => hk.2) (.slice Ao52 t283.length co52)) (fun _ hk => hk.2) (.slice Ao56 t286.length co56)) (fun _ hk => hk.2) (.slice Ao57 t289.length co57)) (fun _ h_ => h_.1))))) (Kd.R_lt (by (with_reducible repeat (first | apply Kd.R_alloc | apply Kd.R_drewN | apply Kd.R_drew)); exact (Kd.R_mono (Kd.R_far (p := ⟨gb293, 2, none⟩) (Kd.R_far (p := ⟨gb293, 1, none⟩) (Kd.R_far (p := ⟨gb293, 0, none⟩) (Kd.R_types HO285.out BK293.out (by decide)) (fun _ hk => hk.2) (.slice Ao52 t283.length co52)) (fun _ hk => hk.2) (.slice Ao56 t286.length co56)) (fun _ hk => hk.2) (.slice Ao57 t289.length co57)) (fun _ h_ => h_.1))))) (Kd.R_lt (by (with_reducible repeat (first | apply Kd.R_alloc | apply Kd.R_drewN | apply Kd.R_drew)); exact (Kd.R_mono (Kd.R_far (p := ⟨gb293, 2, none⟩) (Kd.R_far (p := ⟨gb293, 1, none⟩) (Kd.R_far (p := ⟨gb293, 0, none⟩) (Kd.R_types HO288.out BK293.out (by decide)) (fun _ hk => hk.2) (.slice Ao52 t283.length co52)) (fun _ hk => hk.2) (.slice Ao56 t286.length co56)) (fun _ hk => hk.2) (.slice Ao57 t289.length co57)) (fun _ h_ => h_.1))))) (Kd.R_lt (by (with_reducible repeat (first | apply Kd.R_alloc | apply Kd.R_drewN | apply Kd.R_drew)); exact (Kd.R_mono (Kd.R_far (p := ⟨gb293, 2, none⟩) (Kd.R_far (p := ⟨gb293, 1, none⟩) (Kd.R_far (p := ⟨gb293, 0, none⟩) (Kd.R_types HO291.out BK293.out (by decide)) (fun _ hk => hk.2) (.slice Ao52 t283.length co52)) (fun _ hk => hk.2) (.slice Ao56 t286.length co56)) (fun _ hk => hk.2) (.slice Ao57 t289.length co57)) (fun _ h_ => h_.1))))) (below_size (by repeat (first | (with_reducible first | exact HB.out | apply below_alloc | apply pw_below_drewN | apply below_drew1 | refine below_set ?_ GE262.out | refine below_set ?_ GE270.out | refine below_set ?_ GE293.out) | exact HB.out)))); have n8_ := Aside0.mk (blk_below (g := gb262) (o := .cells #[.slice A2_0 l2_0.length c2_0, .slice A2_1 l2_1.length c2_1] 25 (0, 0)) (by (repeat (first | (with_reducible first | refine blk_drewN ?_ _ | refine blk_drew ?_ | refine blk_alloc ?_ _) | refine blk_far ?_ NB262_293.out _)); (with_reducible repeat (first | refine blk_drewN ?_ _ | refine blk_drew ?_ | refine blk_alloc ?_ _)); exact BK262.out) hb); have n9_ := Aside0.mk (blk_below (g := gb270) (o := .cells #[.slice Ao13 t263.length co13, .slice Ao16 t266.length co16] 25 (0, 0)) (by (repeat (first | (with_reducible first | refine blk_drewN ?_ _ | refine blk_drew ?_ | refine blk_alloc ?_ _) | refine blk_far ?_ NB270_293.out _)); (with_reducible repeat (first | refine blk_drewN ?_ _ | refine blk_drew ?_ | refine blk_alloc ?_ _)); exact BK270.out) hb); have n10_ := Aside0.mk (blk_below (g := gb293) (o := .cells #[.slice Ao52 t283.length co52, .slice Ao56 t286.length co56, .slice Ao57 t289.length co57] 30 (0, 0)) (by (with_reducible repeat (first | refine blk_drewN ?_ _ | refine blk_drew ?_ | refine blk_alloc ?_ _)); refine blk_put (cs := #[.slice Ao52 t283.length co52, .slice Ao56 t286.length co56, .slice none 0 0]) ?_ 2 _ rfl; (with_reducible repeat (first | refine blk_drewN ?_ _ | refine blk_drew ?_ | refine blk_alloc ?_ _)); refine blk_put (cs := #[.slice Ao52 t283.length co52, .slice none 0 0, .slice none 0 0]) ?_ 1 _ rfl; (with_reducible repeat (first | refine blk_drewN ?_ _ | refine blk_drew ?_ | refine blk_alloc ?_ _)); refine blk_put (cs := #[.slice none 0 0, .slice none 0 0, .slice none 0 0]) ?_ 0 _ rfl; (with_reducible repeat (first | refine blk_drewN ?_ _ | refine blk_drew ?_ | refine blk_alloc ?_ _)); exact BK293.out) hb); have n11_ := Aside0.mk (below_step (by repeat (first | (with_reducible first | exact HB.out | apply below_alloc | apply pw_below_drewN | apply below_drew1 | refine below_set ?_ GE262.out | refine below_set ?_ GE270.out | refine below_set ?_ GE293.out) | exact HB.out)) hb); clear HO_271000; clear HO_271001; clear HO285; clear HO288; clear HO291; clear BK262; clear BK270; clear BK293; clear HB; have HO_271000 := n0_; have HO_271001 := n1_; have HO285 := n2_; have HO288 := n3_; have HO291 := n4_; have HO296 := n5_; have HO299 := n6_; have HO302 := n7_; have BK262 := n8_; have BK270 := n9_; have BK293 := n10_; have HB := n11_; clear n0_ n1_ n2_ n3_ n4_ n5_ n6_ n7_ n8_ n9_ n10_ n11_; (try clear hb); (try clear hb2); (try clear hk); (try clear hi); (try clear ho0); (try clear ho1); (try clear ho2)) | ((with_reducible refine gate_dst (N := 20) rfl ?_); (try (refine gate_guard (by rfl) ?_; dsimp only)); refine box_event ?hg (N := 20) ?hd (cs := #[.slice none 0 0, .slice none 0 0, .slice none 0 0]) (t := 30) ?hr ?_; (case hd => rfl); (case hg => rfl); (case hr => first | (go_simp; done) | (go_simp; rfl)); intro gb304 hg w60 hbox hb; have n0_ := Aside0.mk (Kd.R_below (by (with_reducible repeat (first | apply Kd.R_alloc | apply Kd.R_drewN | apply Kd.R_drew)); exact HO_271000.out) hb); have n1_ := Aside0.mk (Kd.R_below (by (with_reducible repeat (first | apply Kd.R_alloc | apply Kd.R_drewN | apply Kd.R_drew)); exact HO_271001.out) hb); have n2_ := Aside0.mk (Kd.R_below (by (with_reducible repeat (first | apply Kd.R_alloc | apply Kd.R_drewN | apply Kd.R_drew)); exact HO285.out) hb); have n3_ := Aside0.mk (Kd.R_below (by (with_reducible repeat (first | apply Kd.R_alloc | apply Kd.R_drewN | apply Kd.R_drew)); exact HO288.out) hb); have n4_ := Aside0.mk (Kd.R_below (by (with_reducible repeat (first | apply Kd.R_alloc | apply Kd.R_drewN | apply Kd.R_drew)); exact HO291.out) hb); have n5_ := Aside0.mk (Kd.R_below (by (with_reducible repeat (first | apply Kd.R_alloc | apply Kd.R_drewN | apply Kd.R_drew)); exact HO296.out) hb); have n6_ := Aside0.mk (Kd.R_below (by (with_reducible repeat (first | apply Kd.R_alloc | apply Kd.R_drewN | apply Kd.R_drew)); exact HO299.out) hb); have n7_ := Aside0.mk (Kd.R_below (by (with_reducible repeat (first | apply Kd.R_alloc | apply Kd.R_drewN | apply Kd.R_drew)); exact HO302.out) hb); have n8_ := offertorylaw25_IdealHides.keepB BK262 hb; have n9_ := offertorylaw25_IdealHides.keepB BK270 hb; have n10_ := offertorylaw25_IdealHides.keepB BK293 hb; have n11_ := Aside0.mk (below_step (by repeat (first | (with_reducible first | exact HB.out | apply below_alloc | apply pw_below_drewN | apply below_drew1 | refine below_set ?_ GE262.out | refine below_set ?_ GE270.out | refine below_set ?_ GE293.out) | exact HB.out)) hb); have n12_ := Aside0.mk (hbox); have n13_ := Aside0.mk ((by rw [hg]; exact (below_size (by repeat (first | (with_reducible first | exact HB.out | apply below_alloc | apply pw_below_drewN | apply below_drew1 | refine below_set ?_ GE262.out | refine below_set ?_ GE270.out | refine below_set ?_ GE293.out) | exact HB.out))) : w.heap.size ≤ gb304)); have n14_ := Aside0.mk ((by rw [hg]; exact (below_size (by repeat (first | (with_reducible first | exact HB.out | apply below_alloc | apply pw_below_drewN | apply below_drew1 | refine below_set ?_ GE262.out | refine below_set ?_ GE270.out | refine below_set ?_ GE293.out) | exact HB.out))) : w.heap.size ≤ gb304)); have n15_ := offertorylaw25_IdealHides.neL BK262 hg; have n16_ := offertorylaw25_IdealHides.neG BK262 hg; have n17_ := offertorylaw25_IdealHides.neL BK270 hg; have n18_ := offertorylaw25_IdealHides.neG BK270 hg; have n19_ := offertorylaw25_IdealHides.neL BK293 hg; have n20_ := offertorylaw25_IdealHides.neG BK293 hg; clear HO_271000; clear HO_271001; clear HO285; clear HO288; clear HO291; clear HO296; clear HO299; clear HO302; clear BK262; clear BK270; clear BK293; clear HB; have HO_271000 := n0_; have HO_271001 := n1_; have HO285 := n2_; have HO288 := n3_; have HO291 := n4_; have HO296 := n5_; have HO299 := n6_; have HO302 := n7_; have BK262 := n8_; have BK270 := n9_; have BK293 := n10_; have HB := n11_; have BK304 := n12_; have GW304 := n13_; have GE304 := n14_; have NB262_304 := n15_; have NB304_262 := n16_; have NB270_304 := n17_; have NB304_270 := n18_; have NB293_304 := n19_; have NB304_293 := n20_; clear n0_ n1_ n2_ n3_ n4_ n5_ n6_ n7_ n8_ n9_ n10_ n11_ n12_ n13_ n14_ n15_ n16_ n17_ n18_ n19_ n20_; clear hb hbox hg; obtain ⟨Ao61, co61, eo61⟩ := Kd.R_slice HO296.out; subst eo61; have hnb62 := NB304_262.out; have hnc62 := NB262_304.out; have hnb63 := NB304_270.out; have hnc63 := NB270_304.out; have hnb64 := NB304_293.out; have hnc64 := NB293_304.out; have hcz65_0 : w60.cell? ⟨gb304, 0, none⟩ = some (.slice none 0 0) := (blk_cell BK304.out 0).trans rfl; have hcz65_1 : w60.cell? ⟨gb304, 1, none⟩ = some (.slice none 0 0) := (blk_cell BK304.out 1).trans rfl; have hcz65_2 : w60.cell? ⟨gb304, 2, none⟩ = some (.slice none 0 0) := (blk_cell BK304.out 2).trans rfl; have hfz65_0 := blk_frozen BK304.out 0; have hfz65_1 := blk_frozen BK304.out 1; have hfz65_2 := blk_frozen BK304.out 2; obtain ⟨Ao66, co66, eo66⟩ := Kd.R_slice HO299.out; subst eo66; obtain ⟨Ao67, co67, eo67⟩ := Kd.R_slice HO302.out; subst eo67))
              have n0_ : Aside0 (Kd.R (Kd.slice 37 (Kd.int .u32)) 35 (((w60.setCell ⟨gb304, 0, none⟩ (.slice Ao61 t294.length co61)).setCell ⟨gb304, 1, none⟩ (.slice Ao66 t297.length co66)).setCell ⟨gb304, 2, none⟩ (.slice Ao67 t300.length co67)) w.heap.size (fun k_ => some k_ ≠ (.slice Ao52 t283.length co52 : Value).ownBlock ∧ some k_ ≠ (.slice Ao56 t286.length co56 : Value).ownBlock ∧ some k_ ≠ (.slice Ao61 t294.length co61 : Value).ownBlock ∧ some k_ ≠ (.slice Ao66 t297.length co66 : Value).ownBlock) (.slice Ao13 t263.length co13) t263) := ⟨by (with_reducible repeat (first | apply Kd.R_alloc | apply Kd.R_drewN | apply Kd.R_drew)); exact Kd.R_mono (Kd.R_far (p := ⟨gb304, 2, none⟩) (Kd.R_far (p := ⟨gb304, 1, none⟩) (Kd.R_far (p := ⟨gb304, 0, none⟩) (Kd.R_types HO_271000.out BK304.out (by decide)) (fun _ hk => hk.2) (.slice Ao61 t294.length co61)) (fun _ hk => hk.2) (.slice Ao66 t297.length co66)) (fun _ hk => hk.2) (.slice Ao67 t300.length co67)) (fun _ hk => ⟨hk.1.1.1.1.2, ⟨hk.1.1.1.2, ⟨hk.1.1.2, hk.1.2⟩⟩⟩)⟩
              have n1_ : Aside0 (Kd.R (Kd.slice 35 (Kd.slice 37 (Kd.int .u32))) 22 (((w60.setCell ⟨gb304, 0, none⟩ (.slice Ao61 t294.length co61)).setCell ⟨gb304, 1, none⟩ (.slice Ao66 t297.length co66)).setCell ⟨gb304, 2, none⟩ (.slice Ao67 t300.length co67)) w.heap.size (fun k_ => some k_ ≠ (.slice Ao13 t263.length co13 : Value).ownBlock ∧ some k_ ≠ (.slice Ao52 t283.length co52 : Value).ownBlock ∧ some k_ ≠ (.slice Ao56 t286.length co56 : Value).ownBlock ∧ some k_ ≠ (.slice Ao57 t289.length co57 : Value).ownBlock ∧ some k_ ≠ (.slice Ao61 t294.length co61 : Value).ownBlock ∧ some k_ ≠ (.slice Ao66 t297.length co66 : Value).ownBlock ∧ some k_ ≠ (.slice Ao67 t300.length co67 : Value).ownBlock) (.slice Ao16 t266.length co16) t266) := ⟨by (with_reducible repeat (first | apply Kd.R_alloc | apply Kd.R_drewN | apply Kd.R_drew)); exact Kd.R_mono (Kd.R_far (p := ⟨gb304, 2, none⟩) (Kd.R_far (p := ⟨gb304, 1, none⟩) (Kd.R_far (p := ⟨gb304, 0, none⟩) (Kd.R_types HO_271001.out BK304.out (by decide)) (fun _ hk => hk.2) (.slice Ao61 t294.length co61)) (fun _ hk => hk.2) (.slice Ao66 t297.length co66)) (fun _ hk => hk.2) (.slice Ao67 t300.length co67)) (fun _ hk => ⟨hk.1.1.1.1.1.1.1, ⟨hk.1.1.1.1.1.1.2, ⟨hk.1.1.1.1.1.2, ⟨hk.1.1.1.1.2, ⟨hk.1.1.1.2, ⟨hk.1.1.2, hk.1.2⟩⟩⟩⟩⟩⟩)⟩
              have n2_ : Aside0 (Kd.R (Kd.slice 37 (Kd.int .u32)) 35 (((w60.setCell ⟨gb304, 0, none⟩ (.slice Ao61 t294.length co61)).setCell ⟨gb304, 1, none⟩ (.slice Ao66 t297.length co66)).setCell ⟨gb304, 2, none⟩ (.slice Ao67 t300.length co67)) w.heap.size (fun k_ => some k_ ≠ (.slice Ao13 t263.length co13 : Value).ownBlock ∧ some k_ ≠ (.slice Ao56 t286.length co56 : Value).ownBlock ∧ some k_ ≠ (.slice Ao61 t294.length co61 : Value).ownBlock ∧ some k_ ≠ (.slice Ao66 t297.length co66 : Value).ownBlock) (.slice Ao52 t283.length co52) t283) := ⟨by (with_reducible repeat (first | apply Kd.R_alloc | apply Kd.R_drewN | apply Kd.R_drew)); exact Kd.R_mono (Kd.R_far (p := ⟨gb304, 2, none⟩) (Kd.R_far (p := ⟨gb304, 1, none⟩) (Kd.R_far (p := ⟨gb304, 0, none⟩) (Kd.R_types HO285.out BK304.out (by decide)) (fun _ hk => hk.2) (.slice Ao61 t294.length co61)) (fun _ hk => hk.2) (.slice Ao66 t297.length co66)) (fun _ hk => hk.2) (.slice Ao67 t300.length co67)) (fun _ hk => ⟨hk.1.1.1.2, ⟨hk.1.1.1.1, ⟨hk.1.1.2, hk.1.2⟩⟩⟩)⟩
              have n3_ : Aside0 (Kd.R (Kd.slice 37 (Kd.int .u32)) 35 (((w60.setCell ⟨gb304, 0, none⟩ (.slice Ao61 t294.length co61)).setCell ⟨gb304, 1, none⟩ (.slice Ao66 t297.length co66)).setCell ⟨gb304, 2, none⟩ (.slice Ao67 t300.length co67)) w.heap.size (fun k_ => some k_ ≠ (.slice Ao13 t263.length co13 : Value).ownBlock ∧ some k_ ≠ (.slice Ao52 t283.length co52 : Value).ownBlock ∧ some k_ ≠ (.slice Ao61 t294.length co61 : Value).ownBlock ∧ some k_ ≠ (.slice Ao66 t297.length co66 : Value).ownBlock) (.slice Ao56 t286.length co56) t286) := ⟨by (with_reducible repeat (first | apply Kd.R_alloc | apply Kd.R_drewN | apply Kd.R_drew)); exact Kd.R_mono (Kd.R_far (p := ⟨gb304, 2, none⟩) (Kd.R_far (p := ⟨gb304, 1, none⟩) (Kd.R_far (p := ⟨gb304, 0, none⟩) (Kd.R_types HO288.out BK304.out (by decide)) (fun _ hk => hk.2) (.slice Ao61 t294.length co61)) (fun _ hk => hk.2) (.slice Ao66 t297.length co66)) (fun _ hk => hk.2) (.slice Ao67 t300.length co67)) (fun _ hk => ⟨hk.1.1.1.2, ⟨hk.1.1.1.1, ⟨hk.1.1.2, hk.1.2⟩⟩⟩)⟩
              have n4_ : Aside0 (Kd.R (Kd.slice 35 (Kd.slice 37 (Kd.int .u32))) 22 (((w60.setCell ⟨gb304, 0, none⟩ (.slice Ao61 t294.length co61)).setCell ⟨gb304, 1, none⟩ (.slice Ao66 t297.length co66)).setCell ⟨gb304, 2, none⟩ (.slice Ao67 t300.length co67)) w.heap.size (fun k_ => some k_ ≠ (.slice Ao13 t263.length co13 : Value).ownBlock ∧ some k_ ≠ (.slice Ao16 t266.length co16 : Value).ownBlock ∧ some k_ ≠ (.slice Ao52 t283.length co52 : Value).ownBlock ∧ some k_ ≠ (.slice Ao56 t286.length co56 : Value).ownBlock ∧ some k_ ≠ (.slice Ao61 t294.length co61 : Value).ownBlock ∧ some k_ ≠ (.slice Ao66 t297.length co66 : Value).ownBlock ∧ some k_ ≠ (.slice Ao67 t300.length co67 : Value).ownBlock) (.slice Ao57 t289.length co57) t289) := ⟨by (with_reducible repeat (first | apply Kd.R_alloc | apply Kd.R_drewN | apply Kd.R_drew)); exact Kd.R_mono (Kd.R_far (p := ⟨gb304, 2, none⟩) (Kd.R_far (p := ⟨gb304, 1, none⟩) (Kd.R_far (p := ⟨gb304, 0, none⟩) (Kd.R_types HO291.out BK304.out (by decide)) (fun _ hk => hk.2) (.slice Ao61 t294.length co61)) (fun _ hk => hk.2) (.slice Ao66 t297.length co66)) (fun _ hk => hk.2) (.slice Ao67 t300.length co67)) (fun _ hk => ⟨hk.1.1.1.1.1.2, ⟨hk.1.1.1.1.2, ⟨hk.1.1.1.1.1.1.1, ⟨hk.1.1.1.1.1.1.2, ⟨hk.1.1.1.2, ⟨hk.1.1.2, hk.1.2⟩⟩⟩⟩⟩⟩)⟩
              have n5_ : Aside0 (Kd.R (Kd.slice 37 (Kd.int .u32)) 35 (((w60.setCell ⟨gb304, 0, none⟩ (.slice Ao61 t294.length co61)).setCell ⟨gb304, 1, none⟩ (.slice Ao66 t297.length co66)).setCell ⟨gb304, 2, none⟩ (.slice Ao67 t300.length co67)) w.heap.size (fun k_ => some k_ ≠ (.slice Ao13 t263.length co13 : Value).ownBlock ∧ some k_ ≠ (.slice Ao52 t283.length co52 : Value).ownBlock ∧ some k_ ≠ (.slice Ao56 t286.length co56 : Value).ownBlock ∧ some k_ ≠ (.slice Ao66 t297.length co66 : Value).ownBlock) (.slice Ao61 t294.length co61) t294) := ⟨by (with_reducible repeat (first | apply Kd.R_alloc | apply Kd.R_drewN | apply Kd.R_drew)); exact Kd.R_mono (Kd.R_far (p := ⟨gb304, 2, none⟩) (Kd.R_far (p := ⟨gb304, 1, none⟩) (Kd.R_far (p := ⟨gb304, 0, none⟩) (Kd.R_types HO296.out BK304.out (by decide)) (fun _ hk => hk.2) (.slice Ao61 t294.length co61)) (fun _ hk => hk.2) (.slice Ao66 t297.length co66)) (fun _ hk => hk.2) (.slice Ao67 t300.length co67)) (fun _ hk => ⟨hk.1.1.1.2, ⟨hk.1.1.2, ⟨hk.1.2, hk.1.1.1.1⟩⟩⟩)⟩
              have n6_ : Aside0 (Kd.R (Kd.slice 37 (Kd.int .u32)) 35 (((w60.setCell ⟨gb304, 0, none⟩ (.slice Ao61 t294.length co61)).setCell ⟨gb304, 1, none⟩ (.slice Ao66 t297.length co66)).setCell ⟨gb304, 2, none⟩ (.slice Ao67 t300.length co67)) w.heap.size (fun k_ => some k_ ≠ (.slice Ao13 t263.length co13 : Value).ownBlock ∧ some k_ ≠ (.slice Ao52 t283.length co52 : Value).ownBlock ∧ some k_ ≠ (.slice Ao56 t286.length co56 : Value).ownBlock ∧ some k_ ≠ (.slice Ao61 t294.length co61 : Value).ownBlock) (.slice Ao66 t297.length co66) t297) := ⟨by (with_reducible repeat (first | apply Kd.R_alloc | apply Kd.R_drewN | apply Kd.R_drew)); exact Kd.R_mono (Kd.R_far (p := ⟨gb304, 2, none⟩) (Kd.R_far (p := ⟨gb304, 1, none⟩) (Kd.R_far (p := ⟨gb304, 0, none⟩) (Kd.R_types HO299.out BK304.out (by decide)) (fun _ hk => hk.2) (.slice Ao61 t294.length co61)) (fun _ hk => hk.2) (.slice Ao66 t297.length co66)) (fun _ hk => hk.2) (.slice Ao67 t300.length co67)) (fun _ hk => ⟨hk.1.1.1.2, ⟨hk.1.1.2, ⟨hk.1.2, hk.1.1.1.1⟩⟩⟩)⟩
              have n7_ : Aside0 (Kd.R (Kd.slice 35 (Kd.slice 37 (Kd.int .u32))) 22 (((w60.setCell ⟨gb304, 0, none⟩ (.slice Ao61 t294.length co61)).setCell ⟨gb304, 1, none⟩ (.slice Ao66 t297.length co66)).setCell ⟨gb304, 2, none⟩ (.slice Ao67 t300.length co67)) w.heap.size (fun k_ => some k_ ≠ (.slice Ao13 t263.length co13 : Value).ownBlock ∧ some k_ ≠ (.slice Ao16 t266.length co16 : Value).ownBlock ∧ some k_ ≠ (.slice Ao52 t283.length co52 : Value).ownBlock ∧ some k_ ≠ (.slice Ao56 t286.length co56 : Value).ownBlock ∧ some k_ ≠ (.slice Ao57 t289.length co57 : Value).ownBlock ∧ some k_ ≠ (.slice Ao61 t294.length co61 : Value).ownBlock ∧ some k_ ≠ (.slice Ao66 t297.length co66 : Value).ownBlock) (.slice Ao67 t300.length co67) t300) := ⟨by (with_reducible repeat (first | apply Kd.R_alloc | apply Kd.R_drewN | apply Kd.R_drew)); exact Kd.R_mono (Kd.R_far (p := ⟨gb304, 2, none⟩) (Kd.R_far (p := ⟨gb304, 1, none⟩) (Kd.R_far (p := ⟨gb304, 0, none⟩) (Kd.R_types HO302.out BK304.out (by decide)) (fun _ hk => hk.2) (.slice Ao61 t294.length co61)) (fun _ hk => hk.2) (.slice Ao66 t297.length co66)) (fun _ hk => hk.2) (.slice Ao67 t300.length co67)) (fun _ hk => ⟨hk.1.1.1.1.1.2, ⟨hk.1.1.1.1.2, ⟨hk.1.1.1.2, ⟨hk.1.1.2, ⟨hk.1.2, ⟨hk.1.1.1.1.1.1.1, hk.1.1.1.1.1.1.2⟩⟩⟩⟩⟩⟩)⟩
              have n8_ : Aside0 ((((w60.setCell ⟨gb304, 0, none⟩ (.slice Ao61 t294.length co61)).setCell ⟨gb304, 1, none⟩ (.slice Ao66 t297.length co66)).setCell ⟨gb304, 2, none⟩ (.slice Ao67 t300.length co67)).heap[gb262]? = some (.cells #[.slice A2_0 l2_0.length c2_0, .slice A2_1 l2_1.length c2_1] 25 (0, 0))) := ⟨by (repeat (first | (with_reducible first | refine blk_drewN ?_ _ | refine blk_drew ?_ | refine blk_alloc ?_ _) | refine blk_far ?_ NB262_304.out _)); (with_reducible repeat (first | refine blk_drewN ?_ _ | refine blk_drew ?_ | refine blk_alloc ?_ _)); exact BK262.out⟩
              have n9_ : Aside0 ((((w60.setCell ⟨gb304, 0, none⟩ (.slice Ao61 t294.length co61)).setCell ⟨gb304, 1, none⟩ (.slice Ao66 t297.length co66)).setCell ⟨gb304, 2, none⟩ (.slice Ao67 t300.length co67)).heap[gb270]? = some (.cells #[.slice Ao13 t263.length co13, .slice Ao16 t266.length co16] 25 (0, 0))) := ⟨by (repeat (first | (with_reducible first | refine blk_drewN ?_ _ | refine blk_drew ?_ | refine blk_alloc ?_ _) | refine blk_far ?_ NB270_304.out _)); (with_reducible repeat (first | refine blk_drewN ?_ _ | refine blk_drew ?_ | refine blk_alloc ?_ _)); exact BK270.out⟩
              have n10_ : Aside0 ((((w60.setCell ⟨gb304, 0, none⟩ (.slice Ao61 t294.length co61)).setCell ⟨gb304, 1, none⟩ (.slice Ao66 t297.length co66)).setCell ⟨gb304, 2, none⟩ (.slice Ao67 t300.length co67)).heap[gb293]? = some (.cells #[.slice Ao52 t283.length co52, .slice Ao56 t286.length co56, .slice Ao57 t289.length co57] 30 (0, 0))) := ⟨by (repeat (first | (with_reducible first | refine blk_drewN ?_ _ | refine blk_drew ?_ | refine blk_alloc ?_ _) | refine blk_far ?_ NB293_304.out _)); (with_reducible repeat (first | refine blk_drewN ?_ _ | refine blk_drew ?_ | refine blk_alloc ?_ _)); exact BK293.out⟩
              have n11_ : Aside0 ((((w60.setCell ⟨gb304, 0, none⟩ (.slice Ao61 t294.length co61)).setCell ⟨gb304, 1, none⟩ (.slice Ao66 t297.length co66)).setCell ⟨gb304, 2, none⟩ (.slice Ao67 t300.length co67)).heap[gb304]? = some (.cells #[.slice Ao61 t294.length co61, .slice Ao66 t297.length co66, .slice Ao67 t300.length co67] 30 (0, 0))) := ⟨by (with_reducible repeat (first | refine blk_drewN ?_ _ | refine blk_drew ?_ | refine blk_alloc ?_ _)); refine blk_put (cs := #[.slice Ao61 t294.length co61, .slice Ao66 t297.length co66, .slice none 0 0]) ?_ 2 _ rfl; (with_reducible repeat (first | refine blk_drewN ?_ _ | refine blk_drew ?_ | refine blk_alloc ?_ _)); refine blk_put (cs := #[.slice Ao61 t294.length co61, .slice none 0 0, .slice none 0 0]) ?_ 1 _ rfl; (with_reducible repeat (first | refine blk_drewN ?_ _ | refine blk_drew ?_ | refine blk_alloc ?_ _)); refine blk_put (cs := #[.slice none 0 0, .slice none 0 0, .slice none 0 0]) ?_ 0 _ rfl; (with_reducible repeat (first | refine blk_drewN ?_ _ | refine blk_drew ?_ | refine blk_alloc ?_ _)); exact BK304.out⟩
              have n12_ : Aside0 (Below w.heap.size w (((w60.setCell ⟨gb304, 0, none⟩ (.slice Ao61 t294.length co61)).setCell ⟨gb304, 1, none⟩ (.slice Ao66 t297.length co66)).setCell ⟨gb304, 2, none⟩ (.slice Ao67 t300.length co67))) := ⟨by repeat (first | (with_reducible first | exact HB.out | apply below_alloc | apply pw_below_drewN | apply below_drew1 | refine below_set ?_ GE262.out | refine below_set ?_ GE270.out | refine below_set ?_ GE293.out | refine below_set ?_ GE304.out) | exact HB.out)⟩
              (try clear HO_271000)
              (try clear HO_271001)
              (try clear HO285)
              (try clear HO288)
              (try clear HO291)
              (try clear HO296)
              (try clear HO299)
              (try clear HO302)
              (try clear BK262)
              (try clear BK270)
              (try clear BK293)
              (try clear BK304)
              (try clear HB)
              generalize (((w60.setCell ⟨gb304, 0, none⟩ (.slice Ao61 t294.length co61)).setCell ⟨gb304, 1, none⟩ (.slice Ao66 t297.length co66)).setCell ⟨gb304, 2, none⟩ (.slice Ao67 t300.length co67)) = w68 at n0_ n1_ n2_ n3_ n4_ n5_ n6_ n7_ n8_ n9_ n10_ n11_ n12_ ⊢
              have HO_271000 := n0_
              have HO_271001 := n1_
              have HO285 := n2_
              have HO288 := n3_
              have HO291 := n4_
              have HO296 := n5_
              have HO299 := n6_
              have HO302 := n7_
              have BK262 := n8_
              have BK270 := n9_
              have BK293 := n10_
              have BK304 := n11_
              have HB := n12_
              clear n0_ n1_ n2_ n3_ n4_ n5_ n6_ n7_ n8_ n9_ n10_ n11_ n12_
              have n0_ := Aside0.mk (Kd.R_drew HO_271000.out)
              have n1_ := Aside0.mk (Kd.R_drew HO_271001.out)
              have n2_ := Aside0.mk (Kd.R_drew HO285.out)
              have n3_ := Aside0.mk (Kd.R_drew HO288.out)
              have n4_ := Aside0.mk (Kd.R_drew HO291.out)
              have n5_ := Aside0.mk (Kd.R_drew HO296.out)
              have n6_ := Aside0.mk (Kd.R_drew HO299.out)
              have n7_ := Aside0.mk (Kd.R_drew HO302.out)
              have n8_ := Aside0.mk (blk_drew BK262.out)
              have n9_ := Aside0.mk (blk_drew BK270.out)
              have n10_ := Aside0.mk (blk_drew BK293.out)
              have n11_ := Aside0.mk (blk_drew BK304.out)
              have n12_ := Aside0.mk (below_drew1 HB.out)
              clear HO_271000
              clear HO_271001
              clear HO285
              clear HO288
              clear HO291
              clear HO296
              clear HO299
              clear HO302
              clear BK262
              clear BK270
              clear BK293
              clear BK304
              clear HB
              have HO_271000 := n0_
              have HO_271001 := n1_
              have HO285 := n2_
              have HO288 := n3_
              have HO291 := n4_
              have HO296 := n5_
              have HO299 := n6_
              have HO302 := n7_
              have BK262 := n8_
              have BK270 := n9_
              have BK293 := n10_
              have BK304 := n11_
              have HB := n12_
              clear n0_ n1_ n2_ n3_ n4_ n5_ n6_ n7_ n8_ n9_ n10_ n11_ n12_
              have p306 : 0 ≤ (0 : Int) := (by omega)
              have q306 : 0 < (l0.length : Int) := of_decide_eq_true (by first | (with_reducible assumption) | assumption)
              obtain ⟨ad306, A306_0, c306_0, e306, hx306_0, hl306_0, hi306_0⟩ := at_L1 HR0.out 0 p306 q306
              have hw306_0 := hx306_0
              (try rw [show ((0 : Int)).toNat = 0 from rfl] at hw306_0)
              (try rw [show 0 * 1 = 0 from rfl] at hw306_0)
              (try rw [Addr.add_zero'] at hw306_0)
              obtain rfl : ad275 = ad306 := (by injection e306)
              have qi306 : (0 < l0.length) = True := eq_true (by omega)
              (try rw [show ((0 : Int)).toNat = 0 from rfl] at hx306_0)
              (try rw [Addr.add_zero'] at hx306_0)
              replace hx306_0 := (HB.out.cell (World.block_lt_of_cell? w _ hx306_0)).trans hx306_0
              have HR306_0 := Aside0.mk hi306_0
              have HC306_0 := Aside0.mk hl306_0
              clear hi306_0 hl306_0
              replace p306 := eq_true p306
              replace q306 := eq_true q306
              refine start_ (n := 29) (S := fun w' => w'.cell? ⟨gb270, 0, none⟩ = some (.slice Ao13 t263.length co13) ∧ w'.cell? ⟨gb270, 1, none⟩ = some (.slice Ao16 t266.length co16) ∧ w'.cell? ⟨gb293, 0, none⟩ = some (.slice Ao52 t283.length co52) ∧ w'.cell? ⟨gb293, 1, none⟩ = some (.slice Ao56 t286.length co56) ∧ w'.cell? ⟨gb293, 2, none⟩ = some (.slice Ao57 t289.length co57) ∧ w'.cell? ⟨gb304, 0, none⟩ = some (.slice Ao61 t294.length co61) ∧ w'.cell? ⟨gb304, 1, none⟩ = some (.slice Ao66 t297.length co66) ∧ w'.cell? ⟨gb304, 2, none⟩ = some (.slice Ao67 t300.length co67) ∧ w'.cell? ad275 = some (.slice A306_0 (rd_L1 l0 0).length c306_0)) (ds := []) #[F, F, F, F, F, F, F, F, F, F, F, F, F, F, F, F, F, F, F, F, F, F, F, F, F, F, F, F, F] (by kernel_rfl) rfl rfl ⟨(blk_cell BK270.out 0).trans rfl, (blk_cell BK270.out 1).trans rfl, (blk_cell BK293.out 0).trans rfl, (blk_cell BK293.out 1).trans rfl, (blk_cell BK293.out 2).trans rfl, (blk_cell BK304.out 0).trans rfl, (blk_cell BK304.out 1).trans rfl, (blk_cell BK304.out 2).trans rfl, ((HB.out.cell (World.block_lt_of_cell? w _ hw306_0)).trans hw306_0)⟩ (fun hHeld => ?_); refine with_tabW offertorylaw25_IdealHides.tab22 offertorylaw25_IdealHides.bits22 (fun HT_ HW_ => ?_)
              generalize w68.drew = w69 at HO_271000 HO_271001 HO285 HO288 HO291 HO296 HO299 HO302 BK262 BK270 BK293 BK304 HB HR306_0 hx306_0 hHeld ⊢
              refine one_ (i := 0) (N := some 123) #[T, F, F, F, F, F, F, F, F, F, F, F, F, F, F, F, F, F, F, F, F, F, F, F, F, F, F, F, F] rfl rfl (one_of HT_.out (by kernel_rfl)) (by decide) (fun K hK => ?_)
              refine goes_ Tryd.func9 (by kernel_rfl) rfl #[] (by rfl) rfl rfl (by (try simp only [List.map_toArray, List.map_cons, List.map_nil]); first | done | rfl | (simp only [List.length_drop, List.length_take]; rfl)) ?_
              with_reducible refine (offertorylaw25_awake.calls  true _ (HTab.out.step (by repeat (first | (with_reducible first | exact HB.out | apply below_alloc | apply pw_below_drewN | apply below_drew1 | refine below_set ?_ (Aside0.out (by assumption))) | exact HB.out | refine below_set ?_ (Aside0.out (by assumption))))) A40.out).mono ?_
              rintro e w70 ⟨rfl, hb⟩
              refine ⟨_, rfl, ?_⟩
              have n0_ := Aside0.mk (Kd.R_below (by (with_reducible repeat (first | apply Kd.R_alloc | apply Kd.R_drewN | apply Kd.R_drew)); exact HO_271000.out) hb)
              have n1_ := Aside0.mk (Kd.R_below (by (with_reducible repeat (first | apply Kd.R_alloc | apply Kd.R_drewN | apply Kd.R_drew)); exact HO_271001.out) hb)
              have n2_ := Aside0.mk (Kd.R_below (by (with_reducible repeat (first | apply Kd.R_alloc | apply Kd.R_drewN | apply Kd.R_drew)); exact HO285.out) hb)
              have n3_ := Aside0.mk (Kd.R_below (by (with_reducible repeat (first | apply Kd.R_alloc | apply Kd.R_drewN | apply Kd.R_drew)); exact HO288.out) hb)
              have n4_ := Aside0.mk (Kd.R_below (by (with_reducible repeat (first | apply Kd.R_alloc | apply Kd.R_drewN | apply Kd.R_drew)); exact HO291.out) hb)
              have n5_ := Aside0.mk (Kd.R_below (by (with_reducible repeat (first | apply Kd.R_alloc | apply Kd.R_drewN | apply Kd.R_drew)); exact HO296.out) hb)
              have n6_ := Aside0.mk (Kd.R_below (by (with_reducible repeat (first | apply Kd.R_alloc | apply Kd.R_drewN | apply Kd.R_drew)); exact HO299.out) hb)
              have n7_ := Aside0.mk (Kd.R_below (by (with_reducible repeat (first | apply Kd.R_alloc | apply Kd.R_drewN | apply Kd.R_drew)); exact HO302.out) hb)
              have n8_ := offertorylaw25_IdealHides.keepB BK262 hb
              have n9_ := offertorylaw25_IdealHides.keepB BK270 hb
              have n10_ := offertorylaw25_IdealHides.keepB BK293 hb
              have n11_ := offertorylaw25_IdealHides.keepB BK304 hb
              have n12_ := Aside0.mk (below_step (by repeat (first | (with_reducible first | exact HB.out | apply below_alloc | apply pw_below_drewN | apply below_drew1 | refine below_set ?_ GE262.out | refine below_set ?_ GE270.out | refine below_set ?_ GE293.out | refine below_set ?_ GE304.out) | exact HB.out)) hb)
              clear HO_271000
              clear HO_271001
              clear HO285
              clear HO288
              clear HO291
              clear HO296
              clear HO299
              clear HO302
              clear BK262
              clear BK270
              clear BK293
              clear BK304
              clear HB
              have HO_271000 := n0_
              have HO_271001 := n1_
              have HO285 := n2_
              have HO288 := n3_
              have HO291 := n4_
              have HO296 := n5_
              have HO299 := n6_
              have HO302 := n7_
              have BK262 := n8_
              have BK270 := n9_
              have BK293 := n10_
              have BK304 := n11_
              have HB := n12_
              clear n0_ n1_ n2_ n3_ n4_ n5_ n6_ n7_ n8_ n9_ n10_ n11_ n12_
              (try clear hb)
              (try clear hb2)
              (try clear hk)
              (try clear hi)
              refine hK.out _ _ ⟨(blk_cell BK270.out 0).trans rfl, (blk_cell BK270.out 1).trans rfl, (blk_cell BK293.out 0).trans rfl, (blk_cell BK293.out 1).trans rfl, (blk_cell BK293.out 2).trans rfl, (blk_cell BK304.out 0).trans rfl, (blk_cell BK304.out 1).trans rfl, (blk_cell BK304.out 2).trans rfl, ((HB.out.cell (World.block_lt_of_cell? w _ hw306_0)).trans hw306_0)⟩ (fun hHeld => ?_)
              clear hK K
              refine norm_ (a' := ?_) ?_ ?_
              rotate_left
              ·
               show Act.put _ (some 123) _ = _
               simp only [Act.put, List.setIfInBounds_toArray, List.set_cons_zero, List.set_cons_succ, i64_w, i32_w]
               rfl
              refine pure_ (i := 1) (N := some 124) (v := ?_) (a' := ?_) #[T, T, F, F, F, F, F, F, F, F, F, F, F, F, F, F, F, F, F, F, F, F, F, F, F, F, F, F, F] rfl rfl (any_of HT_.out (by kernel_rfl)) (fun _ _ _ h => h) (Or.inl ⟨by rfl, ?_⟩) ?_ ?_
              rotate_left
              ·
               intro w'
               (try simp only [add_plain] at s0 s1 s2 s3 s4 s5 s6 s7 s8)
               go_simp
               with_reducible rfl
              rotate_left
              ·
               simp only [Act.put, List.setIfInBounds_toArray, List.set_cons_zero, List.set_cons_succ, i64_w, i32_w]
               rfl
              refine pure_ (i := 2) (N := some 125) (v := ?_) (a' := ?_) #[T, T, T, F, F, F, F, F, F, F, F, F, F, F, F, F, F, F, F, F, F, F, F, F, F, F, F, F, F] rfl rfl (any_of HT_.out (by kernel_rfl)) (fun _ _ _ h => h) (Or.inl ⟨by rfl, ?_⟩) ?_ ?_
              rotate_left
              ·
               intro w'
               (try simp only [add_plain] at s0 s1 s2 s3 s4 s5 s6 s7 s8)
               go_simp
               with_reducible rfl
              rotate_left
              ·
               simp only [Act.put, List.setIfInBounds_toArray, List.set_cons_zero, List.set_cons_succ, i64_w, i32_w]
               rfl
              refine pure_ (i := 3) (N := some 126) (v := ?_) (a' := ?_) #[T, T, T, T, F, F, F, F, F, F, F, F, F, F, F, F, F, F, F, F, F, F, F, F, F, F, F, F, F] rfl rfl (any_of HT_.out (by kernel_rfl)) (fun _ _ _ h => h) (Or.inl ⟨by rfl, ?_⟩) ?_ ?_
              rotate_left
              ·
               intro w'
               (try simp only [add_plain] at s0 s1 s2 s3 s4 s5 s6 s7 s8)
               go_simp
               with_reducible rfl
              rotate_left
              ·
               simp only [Act.put, List.setIfInBounds_toArray, List.set_cons_zero, List.set_cons_succ, i64_w, i32_w]
               rfl
              refine pure_ (i := 4) (N := some 127) (v := ?_) (a' := ?_) #[T, T, T, T, T, F, F, F, F, F, F, F, F, F, F, F, F, F, F, F, F, F, F, F, F, F, F, F, F] rfl rfl (any_of HT_.out (by kernel_rfl)) (fun _ _ _ h => h) (Or.inl ⟨by rfl, ?_⟩) ?_ ?_
              rotate_left
              ·
               intro w'
               (try simp only [add_plain] at s0 s1 s2 s3 s4 s5 s6 s7 s8)
               go_simp
               with_reducible rfl
              rotate_left
              ·
               simp only [Act.put, List.setIfInBounds_toArray, List.set_cons_zero, List.set_cons_succ, i64_w, i32_w]
               rfl
              refine pure_ (i := 5) (N := some 128) (v := ?_) (a' := ?_) #[T, T, T, T, T, T, F, F, F, F, F, F, F, F, F, F, F, F, F, F, F, F, F, F, F, F, F, F, F] rfl rfl (any_of HT_.out (by kernel_rfl)) (fun _ _ _ h => h) (Or.inl ⟨by rfl, ?_⟩) ?_ ?_
              rotate_left
              ·
               intro w'
               (try simp only [add_plain] at s0 s1 s2 s3 s4 s5 s6 s7 s8)
               go_simp
               with_reducible rfl
              rotate_left
              ·
               simp only [Act.put, List.setIfInBounds_toArray, List.set_cons_zero, List.set_cons_succ, i64_w, i32_w]
               rfl
              refine pure_ (i := 6) (N := some 129) (v := ?_) (a' := ?_) #[T, T, T, T, T, T, T, F, F, F, F, F, F, F, F, F, F, F, F, F, F, F, F, F, F, F, F, F, F] rfl rfl (any_of HT_.out (by kernel_rfl)) (fun _ _ _ h => h) (Or.inl ⟨by rfl, ?_⟩) ?_ ?_
              rotate_left
              ·
               intro w'
               (try simp only [add_plain] at s0 s1 s2 s3 s4 s5 s6 s7 s8)
               go_simp
               with_reducible rfl
              rotate_left
              ·
               simp only [Act.put, List.setIfInBounds_toArray, List.set_cons_zero, List.set_cons_succ, i64_w, i32_w]
               rfl
              refine pure_ (i := 7) (N := some 130) (v := ?_) (a' := ?_) #[T, T, T, T, T, T, T, T, F, F, F, F, F, F, F, F, F, F, F, F, F, F, F, F, F, F, F, F, F] rfl rfl (any_of HT_.out (by kernel_rfl)) (fun _ _ _ h => h) (Or.inl ⟨by rfl, ?_⟩) ?_ ?_
              rotate_left
              ·
               intro w'
               (try simp only [add_plain] at s0 s1 s2 s3 s4 s5 s6 s7 s8)
               go_simp
               with_reducible rfl
              rotate_left
              ·
               simp only [Act.put, List.setIfInBounds_toArray, List.set_cons_zero, List.set_cons_succ, i64_w, i32_w]
               rfl
              refine pure_ (i := 8) (N := some 131) (v := ?_) (a' := ?_) #[T, T, T, T, T, T, T, T, T, F, F, F, F, F, F, F, F, F, F, F, F, F, F, F, F, F, F, F, F] rfl rfl (any_of HT_.out (by kernel_rfl)) (fun _ _ _ h => h) (Or.inl ⟨by rfl, ?_⟩) ?_ ?_
              rotate_left
              ·
               intro w'
               (try simp only [add_plain] at s0 s1 s2 s3 s4 s5 s6 s7 s8)
               go_simp
               with_reducible rfl
              rotate_left
              ·
               simp only [Act.put, List.setIfInBounds_toArray, List.set_cons_zero, List.set_cons_succ, i64_w, i32_w]
               rfl
              refine pure_ (i := 9) (N := some 132) (v := ?_) (a' := ?_) #[T, T, T, T, T, T, T, T, T, T, F, F, F, F, F, F, F, F, F, F, F, F, F, F, F, F, F, F, F] rfl rfl (any_of HT_.out (by kernel_rfl)) (fun _ _ _ h => h) (Or.inl ⟨by rfl, ?_⟩) ?_ ?_
              rotate_left
              ·
               intro w'
               (try simp only [add_plain] at s0 s1 s2 s3 s4 s5 s6 s7 s8)
               go_simp
               with_reducible rfl
              rotate_left
              ·
               simp only [Act.put, List.setIfInBounds_toArray, List.set_cons_zero, List.set_cons_succ, i64_w, i32_w]
               rfl
              refine pure_ (i := 10) (N := some 133) (v := ?_) (a' := ?_) #[T, T, T, T, T, T, T, T, T, T, T, F, F, F, F, F, F, F, F, F, F, F, F, F, F, F, F, F, F] rfl rfl (any_of HT_.out (by kernel_rfl)) (fun _ _ _ h => h) (Or.inl ⟨by rfl, ?_⟩) ?_ ?_
              rotate_left
              ·
               intro w'
               (try simp only [add_plain] at s0 s1 s2 s3 s4 s5 s6 s7 s8)
               go_simp
               with_reducible rfl
              rotate_left
              ·
               simp only [Act.put, List.setIfInBounds_toArray, List.set_cons_zero, List.set_cons_succ, i64_w, i32_w]
               rfl
              refine pure_ (i := 11) (N := some 134) (v := ?_) (a' := ?_) #[T, T, T, T, T, T, T, T, T, T, T, T, F, F, F, F, F, F, F, F, F, F, F, F, F, F, F, F, F] rfl rfl (any_of HT_.out (by kernel_rfl)) (fun _ _ _ h => h) (Or.inl ⟨by rfl, ?_⟩) ?_ ?_
              rotate_left
              ·
               intro w'
               (try simp only [add_plain] at s0 s1 s2 s3 s4 s5 s6 s7 s8)
               go_simp
               with_reducible rfl
              rotate_left
              ·
               simp only [Act.put, List.setIfInBounds_toArray, List.set_cons_zero, List.set_cons_succ, i64_w, i32_w]
               rfl
              refine pure_ (i := 12) (N := some 135) (v := ?_) (a' := ?_) #[T, T, T, T, T, T, T, T, T, T, T, T, T, F, F, F, F, F, F, F, F, F, F, F, F, F, F, F, F] rfl rfl (any_of HT_.out (by kernel_rfl)) (fun _ _ _ h => h) (Or.inl ⟨by rfl, ?_⟩) ?_ ?_
              rotate_left
              ·
               intro w'
               (try simp only [add_plain] at s0 s1 s2 s3 s4 s5 s6 s7 s8)
               go_simp
               with_reducible rfl
              rotate_left
              ·
               simp only [Act.put, List.setIfInBounds_toArray, List.set_cons_zero, List.set_cons_succ, i64_w, i32_w]
               rfl
              refine pure_ (i := 13) (N := some 136) (v := ?_) (a' := ?_) #[T, T, T, T, T, T, T, T, T, T, T, T, T, T, F, F, F, F, F, F, F, F, F, F, F, F, F, F, F] rfl rfl (any_of HT_.out (by kernel_rfl)) (fun _ _ _ h => h) (Or.inl ⟨by rfl, ?_⟩) ?_ ?_
              rotate_left
              ·
               intro w'
               (try simp only [add_plain] at s0 s1 s2 s3 s4 s5 s6 s7 s8)
               go_simp
               with_reducible rfl
              rotate_left
              ·
               simp only [Act.put, List.setIfInBounds_toArray, List.set_cons_zero, List.set_cons_succ, i64_w, i32_w]
               rfl
              refine pure_ (i := 15) (N := some 138) (v := ?_) (a' := ?_) #[T, T, T, T, T, T, T, T, T, T, T, T, T, T, F, T, F, F, F, F, F, F, F, F, F, F, F, F, F] rfl rfl (any_of HT_.out (by kernel_rfl)) (fun _ _ _ h => h) (Or.inl ⟨by rfl, ?_⟩) ?_ ?_
              rotate_left
              ·
               intro w'
               (try simp only [add_plain] at s0 s1 s2 s3 s4 s5 s6 s7 s8)
               go_simp
               with_reducible rfl
              rotate_left
              ·
               simp only [Act.put, List.setIfInBounds_toArray, List.set_cons_zero, List.set_cons_succ, i64_w, i32_w]
               rfl
              refine pure_ (i := 16) (N := some 139) (v := ?_) (a' := ?_) #[T, T, T, T, T, T, T, T, T, T, T, T, T, T, F, T, T, F, F, F, F, F, F, F, F, F, F, F, F] rfl rfl (any_of HT_.out (by kernel_rfl)) (fun _ _ _ h => h) (Or.inl ⟨by rfl, ?_⟩) ?_ ?_
              rotate_left
              ·
               intro w'
               (try simp only [add_plain] at s0 s1 s2 s3 s4 s5 s6 s7 s8)
               go_simp
               with_reducible rfl
              rotate_left
              ·
               simp only [Act.put, List.setIfInBounds_toArray, List.set_cons_zero, List.set_cons_succ, i64_w, i32_w]
               rfl
              refine pure_ (i := 17) (N := some 140) (v := ?_) (a' := ?_) #[T, T, T, T, T, T, T, T, T, T, T, T, T, T, F, T, T, T, F, F, F, F, F, F, F, F, F, F, F] rfl rfl (any_of HT_.out (by kernel_rfl)) (fun _ _ _ h => h) (Or.inl ⟨by rfl, ?_⟩) ?_ ?_
              rotate_left
              ·
               intro w'
               (try simp only [add_plain] at s0 s1 s2 s3 s4 s5 s6 s7 s8)
               go_simp
               with_reducible rfl
              rotate_left
              ·
               simp only [Act.put, List.setIfInBounds_toArray, List.set_cons_zero, List.set_cons_succ, i64_w, i32_w]
               rfl
              refine pure_ (i := 18) (N := some 141) (v := ?_) (a' := ?_) #[T, T, T, T, T, T, T, T, T, T, T, T, T, T, F, T, T, T, T, F, F, F, F, F, F, F, F, F, F] rfl rfl (any_of HT_.out (by kernel_rfl)) (fun _ _ _ h => h) (Or.inl ⟨by rfl, ?_⟩) ?_ ?_
              rotate_left
              ·
               intro w'
               (try simp only [add_plain] at s0 s1 s2 s3 s4 s5 s6 s7 s8)
               go_simp
               with_reducible rfl
              rotate_left
              ·
               simp only [Act.put, List.setIfInBounds_toArray, List.set_cons_zero, List.set_cons_succ, i64_w, i32_w]
               rfl
              refine take_ (i := 14) (N := some 137) (v := ?_) (a' := ?_) #[T, T, T, T, T, T, T, T, T, T, T, T, T, T, T, T, T, T, T, F, F, F, F, F, F, F, F, F, F] rfl rfl (take_ofW HT_.out HW_.out (by kernel_rfl)) (fun _ _ _ h => h) (Or.inl ⟨by rfl, ?_⟩) hHeld ?_ ?_
              rotate_left
              ·
               rintro w' ⟨s0, s1, s2, s3, s4, s5, s6, s7, s8⟩
               (try simp only [add_plain] at s0 s1 s2 s3 s4 s5 s6 s7 s8)
               go_simp
               with_reducible rfl
              rotate_left
              ·
               simp only [Act.put, List.setIfInBounds_toArray, List.set_cons_zero, List.set_cons_succ, i64_w, i32_w]
               rfl
              refine take_ (i := 19) (N := some 142) (v := ?_) (a' := ?_) #[T, T, T, T, T, T, T, T, T, T, T, T, T, T, T, T, T, T, T, T, F, F, F, F, F, F, F, F, F] rfl rfl (take_ofW HT_.out HW_.out (by kernel_rfl)) (fun _ _ _ h => h) (Or.inl ⟨by rfl, ?_⟩) hHeld ?_ ?_
              rotate_left
              ·
               rintro w' ⟨s0, s1, s2, s3, s4, s5, s6, s7, s8⟩
               (try simp only [add_plain] at s0 s1 s2 s3 s4 s5 s6 s7 s8)
               go_simp
               with_reducible rfl
              rotate_left
              ·
               simp only [Act.put, List.setIfInBounds_toArray, List.set_cons_zero, List.set_cons_succ, i64_w, i32_w]
               rfl
              refine pure_ (i := 20) (N := some 143) (v := ?_) (a' := ?_) #[T, T, T, T, T, T, T, T, T, T, T, T, T, T, T, T, T, T, T, T, T, F, F, F, F, F, F, F, F] rfl rfl (any_of HT_.out (by kernel_rfl)) (fun _ _ _ h => h) (Or.inl ⟨by rfl, ?_⟩) ?_ ?_
              rotate_left
              ·
               intro w'
               (try simp only [add_plain] at s0 s1 s2 s3 s4 s5 s6 s7 s8)
               go_simp
               with_reducible rfl
              rotate_left
              ·
               simp only [Act.put, List.setIfInBounds_toArray, List.set_cons_zero, List.set_cons_succ, i64_w, i32_w]
               rfl
              refine one_ (i := 21) (N := some 144) #[T, T, T, T, T, T, T, T, T, T, T, T, T, T, T, T, T, T, T, T, T, T, F, F, F, F, F, F, F] rfl rfl (one_of HT_.out (by kernel_rfl)) (by decide) (fun K hK => ?_)
              refine goes_ Tryd.func11 (by kernel_rfl) rfl #[.agg #[.slice Ao13 t263.length co13, .slice Ao16 t266.length co16], .int .i64 (l0.length : Int), .int .i64 ((rd_L1 l0 0).length : Int)] (by rfl) rfl rfl (by (try simp only [List.map_toArray, List.map_cons, List.map_nil]); first | done | rfl | (simp only [List.length_drop, List.length_take]; rfl)) ?_
              with_reducible refine (offertorylaw25_sound.calls k2 _ _ t263 _ _ t266 (l0.length : Int) ((rd_L1 l0 0).length : Int) true _ ?side1 ?side2 ?side3 ?side4 A45.out).mono ?_
              (case side1 => repeat (first | exact (Kd.R_reads' HO_271000.out).2.2 | (with_reducible refine Kd.C_alloc ?_ _) | (with_reducible refine Kd.C_drewN ?_ _) | (with_reducible refine Kd.C_drew ?_)))
              (case side2 => exact (Kd.R_reads' HO_271000.out).2.1)
              (case side3 => repeat (first | exact (Kd.R_reads' HO_271001.out).2.2 | (with_reducible refine Kd.C_alloc ?_ _) | (with_reducible refine Kd.C_drewN ?_ _) | (with_reducible refine Kd.C_drew ?_)))
              (case side4 => exact (Kd.R_reads' HO_271001.out).2.1)
              rintro e w71 ⟨rfl, hb⟩
              refine ⟨_, rfl, ?_⟩
              have n0_ := Aside0.mk (Kd.R_below (by (with_reducible repeat (first | apply Kd.R_alloc | apply Kd.R_drewN | apply Kd.R_drew)); exact HO_271000.out) hb)
              have n1_ := Aside0.mk (Kd.R_below (by (with_reducible repeat (first | apply Kd.R_alloc | apply Kd.R_drewN | apply Kd.R_drew)); exact HO_271001.out) hb)
              have n2_ := Aside0.mk (Kd.R_below (by (with_reducible repeat (first | apply Kd.R_alloc | apply Kd.R_drewN | apply Kd.R_drew)); exact HO285.out) hb)
              have n3_ := Aside0.mk (Kd.R_below (by (with_reducible repeat (first | apply Kd.R_alloc | apply Kd.R_drewN | apply Kd.R_drew)); exact HO288.out) hb)
              have n4_ := Aside0.mk (Kd.R_below (by (with_reducible repeat (first | apply Kd.R_alloc | apply Kd.R_drewN | apply Kd.R_drew)); exact HO291.out) hb)
              have n5_ := Aside0.mk (Kd.R_below (by (with_reducible repeat (first | apply Kd.R_alloc | apply Kd.R_drewN | apply Kd.R_drew)); exact HO296.out) hb)
              have n6_ := Aside0.mk (Kd.R_below (by (with_reducible repeat (first | apply Kd.R_alloc | apply Kd.R_drewN | apply Kd.R_drew)); exact HO299.out) hb)
              have n7_ := Aside0.mk (Kd.R_below (by (with_reducible repeat (first | apply Kd.R_alloc | apply Kd.R_drewN | apply Kd.R_drew)); exact HO302.out) hb)
              have n8_ := offertorylaw25_IdealHides.keepB BK262 hb
              have n9_ := offertorylaw25_IdealHides.keepB BK270 hb
              have n10_ := offertorylaw25_IdealHides.keepB BK293 hb
              have n11_ := offertorylaw25_IdealHides.keepB BK304 hb
              have n12_ := Aside0.mk (below_step (by repeat (first | (with_reducible first | exact HB.out | apply below_alloc | apply pw_below_drewN | apply below_drew1 | refine below_set ?_ GE262.out | refine below_set ?_ GE270.out | refine below_set ?_ GE293.out | refine below_set ?_ GE304.out) | exact HB.out)) hb)
              clear HO_271000
              clear HO_271001
              clear HO285
              clear HO288
              clear HO291
              clear HO296
              clear HO299
              clear HO302
              clear BK262
              clear BK270
              clear BK293
              clear BK304
              clear HB
              have HO_271000 := n0_
              have HO_271001 := n1_
              have HO285 := n2_
              have HO288 := n3_
              have HO291 := n4_
              have HO296 := n5_
              have HO299 := n6_
              have HO302 := n7_
              have BK262 := n8_
              have BK270 := n9_
              have BK293 := n10_
              have BK304 := n11_
              have HB := n12_
              clear n0_ n1_ n2_ n3_ n4_ n5_ n6_ n7_ n8_ n9_ n10_ n11_ n12_
              (try clear hb)
              (try clear hb2)
              (try clear hk)
              (try clear hi)
              refine hK.out _ _ ⟨(blk_cell BK270.out 0).trans rfl, (blk_cell BK270.out 1).trans rfl, (blk_cell BK293.out 0).trans rfl, (blk_cell BK293.out 1).trans rfl, (blk_cell BK293.out 2).trans rfl, (blk_cell BK304.out 0).trans rfl, (blk_cell BK304.out 1).trans rfl, (blk_cell BK304.out 2).trans rfl, ((HB.out.cell (World.block_lt_of_cell? w _ hw306_0)).trans hw306_0)⟩ (fun hHeld => ?_)
              clear hK K
              refine norm_ (a' := ?_) ?_ ?_
              rotate_left
              ·
               show Act.put _ (some 144) _ = _
               simp only [Act.put, List.setIfInBounds_toArray, List.set_cons_zero, List.set_cons_succ, i64_w, i32_w]
               rfl
              refine pure_ (i := 22) (N := some 145) (v := ?_) (a' := ?_) #[T, T, T, T, T, T, T, T, T, T, T, T, T, T, T, T, T, T, T, T, T, T, T, F, F, F, F, F, F] rfl rfl (any_of HT_.out (by kernel_rfl)) (fun _ _ _ h => h) (Or.inl ⟨by rfl, ?_⟩) ?_ ?_
              rotate_left
              ·
               intro w'
               (try simp only [add_plain] at s0 s1 s2 s3 s4 s5 s6 s7 s8)
               go_simp
               with_reducible rfl
              rotate_left
              ·
               simp only [Act.put, List.setIfInBounds_toArray, List.set_cons_zero, List.set_cons_succ, i64_w, i32_w]
               rfl
              refine pure_ (i := 23) (N := some 146) (v := ?_) (a' := ?_) #[T, T, T, T, T, T, T, T, T, T, T, T, T, T, T, T, T, T, T, T, T, T, T, T, F, F, F, F, F] rfl rfl (any_of HT_.out (by kernel_rfl)) (fun _ _ _ h => h) (Or.inl ⟨by rfl, ?_⟩) ?_ ?_
              rotate_left
              ·
               intro w'
               (try simp only [add_plain] at s0 s1 s2 s3 s4 s5 s6 s7 s8)
               go_simp
               with_reducible rfl
              rotate_left
              ·
               simp only [Act.put, List.setIfInBounds_toArray, List.set_cons_zero, List.set_cons_succ, i64_w, i32_w]
               rfl
              refine take_ (i := 24) (N := some 147) (v := ?_) (a' := ?_) #[T, T, T, T, T, T, T, T, T, T, T, T, T, T, T, T, T, T, T, T, T, T, T, T, T, F, F, F, F] rfl rfl (take_ofW HT_.out HW_.out (by kernel_rfl)) (fun _ _ _ h => h) (Or.inl ⟨by rfl, ?_⟩) hHeld ?_ ?_
              rotate_left
              ·
               rintro w' ⟨s0, s1, s2, s3, s4, s5, s6, s7, s8⟩
               (try simp only [add_plain] at s0 s1 s2 s3 s4 s5 s6 s7 s8)
               go_simp
               with_reducible rfl
              rotate_left
              ·
               simp only [Act.put, List.setIfInBounds_toArray, List.set_cons_zero, List.set_cons_succ, i64_w, i32_w]
               rfl
              refine take_ (i := 25) (N := some 148) (v := ?_) (a' := ?_) #[T, T, T, T, T, T, T, T, T, T, T, T, T, T, T, T, T, T, T, T, T, T, T, T, T, T, F, F, F] rfl rfl (take_ofW HT_.out HW_.out (by kernel_rfl)) (fun _ _ _ h => h) (Or.inl ⟨by rfl, ?_⟩) hHeld ?_ ?_
              rotate_left
              ·
               rintro w' ⟨s0, s1, s2, s3, s4, s5, s6, s7, s8⟩
               (try simp only [add_plain] at s0 s1 s2 s3 s4 s5 s6 s7 s8)
               go_simp
               with_reducible rfl
              rotate_left
              ·
               simp only [Act.put, List.setIfInBounds_toArray, List.set_cons_zero, List.set_cons_succ, i64_w, i32_w]
               rfl
              refine one_ (i := 26) (N := some 149) #[T, T, T, T, T, T, T, T, T, T, T, T, T, T, T, T, T, T, T, T, T, T, T, T, T, T, T, F, F] rfl rfl (one_of HT_.out (by kernel_rfl)) (by decide) (fun K hK => ?_)
              refine goes_ Tryd.func18 (by kernel_rfl) rfl #[.agg #[.slice Ao52 t283.length co52, .slice Ao56 t286.length co56, .slice Ao57 t289.length co57], .agg #[.slice Ao61 t294.length co61, .slice Ao66 t297.length co66, .slice Ao67 t300.length co67]] (by rfl) rfl rfl (by (try simp only [List.map_toArray, List.map_cons, List.map_nil]); first | done | rfl | (simp only [List.length_drop, List.length_take]; rfl)) ?_
              with_reducible refine (ideal_Same.calls k2 _ _ t283 _ _ t286 _ _ t289 _ _ t294 _ _ t297 _ _ t300 t308 _ ?side1 ?side2 ?side3 ?side4 ?side5 ?side6 ?side7 ?side8 ?side9 ?side10 ?side11 ?side12 A47.out).mono ?_
              (case side1 => repeat (first | exact (Kd.R_reads' HO285.out).2.2 | (with_reducible refine Kd.C_alloc ?_ _) | (with_reducible refine Kd.C_drewN ?_ _) | (with_reducible refine Kd.C_drew ?_)))
              (case side2 => exact (Kd.R_reads' HO285.out).2.1)
              (case side3 => repeat (first | exact (Kd.R_reads' HO288.out).2.2 | (with_reducible refine Kd.C_alloc ?_ _) | (with_reducible refine Kd.C_drewN ?_ _) | (with_reducible refine Kd.C_drew ?_)))
              (case side4 => exact (Kd.R_reads' HO288.out).2.1)
              (case side5 => repeat (first | exact (Kd.R_reads' HO291.out).2.2 | (with_reducible refine Kd.C_alloc ?_ _) | (with_reducible refine Kd.C_drewN ?_ _) | (with_reducible refine Kd.C_drew ?_)))
              (case side6 => exact (Kd.R_reads' HO291.out).2.1)
              (case side7 => repeat (first | exact (Kd.R_reads' HO296.out).2.2 | (with_reducible refine Kd.C_alloc ?_ _) | (with_reducible refine Kd.C_drewN ?_ _) | (with_reducible refine Kd.C_drew ?_)))
              (case side8 => exact (Kd.R_reads' HO296.out).2.1)
              (case side9 => repeat (first | exact (Kd.R_reads' HO299.out).2.2 | (with_reducible refine Kd.C_alloc ?_ _) | (with_reducible refine Kd.C_drewN ?_ _) | (with_reducible refine Kd.C_drew ?_)))
              (case side10 => exact (Kd.R_reads' HO299.out).2.1)
              (case side11 => repeat (first | exact (Kd.R_reads' HO302.out).2.2 | (with_reducible refine Kd.C_alloc ?_ _) | (with_reducible refine Kd.C_drewN ?_ _) | (with_reducible refine Kd.C_drew ?_)))
              (case side12 => exact (Kd.R_reads' HO302.out).2.1)
              rintro e w72 ⟨rfl, hb⟩
              refine ⟨_, rfl, ?_⟩
              have n0_ := Aside0.mk (Kd.R_below (by (with_reducible repeat (first | apply Kd.R_alloc | apply Kd.R_drewN | apply Kd.R_drew)); exact HO_271000.out) hb)
              have n1_ := Aside0.mk (Kd.R_below (by (with_reducible repeat (first | apply Kd.R_alloc | apply Kd.R_drewN | apply Kd.R_drew)); exact HO_271001.out) hb)
              have n2_ := Aside0.mk (Kd.R_below (by (with_reducible repeat (first | apply Kd.R_alloc | apply Kd.R_drewN | apply Kd.R_drew)); exact HO285.out) hb)
              have n3_ := Aside0.mk (Kd.R_below (by (with_reducible repeat (first | apply Kd.R_alloc | apply Kd.R_drewN | apply Kd.R_drew)); exact HO288.out) hb)
              have n4_ := Aside0.mk (Kd.R_below (by (with_reducible repeat (first | apply Kd.R_alloc | apply Kd.R_drewN | apply Kd.R_drew)); exact HO291.out) hb)
              have n5_ := Aside0.mk (Kd.R_below (by (with_reducible repeat (first | apply Kd.R_alloc | apply Kd.R_drewN | apply Kd.R_drew)); exact HO296.out) hb)
              have n6_ := Aside0.mk (Kd.R_below (by (with_reducible repeat (first | apply Kd.R_alloc | apply Kd.R_drewN | apply Kd.R_drew)); exact HO299.out) hb)
              have n7_ := Aside0.mk (Kd.R_below (by (with_reducible repeat (first | apply Kd.R_alloc | apply Kd.R_drewN | apply Kd.R_drew)); exact HO302.out) hb)
              have n8_ := offertorylaw25_IdealHides.keepB BK262 hb
              have n9_ := offertorylaw25_IdealHides.keepB BK270 hb
              have n10_ := offertorylaw25_IdealHides.keepB BK293 hb
              have n11_ := offertorylaw25_IdealHides.keepB BK304 hb
              have n12_ := Aside0.mk (below_step (by repeat (first | (with_reducible first | exact HB.out | apply below_alloc | apply pw_below_drewN | apply below_drew1 | refine below_set ?_ GE262.out | refine below_set ?_ GE270.out | refine below_set ?_ GE293.out | refine below_set ?_ GE304.out) | exact HB.out)) hb)
              clear HO_271000
              clear HO_271001
              clear HO285
              clear HO288
              clear HO291
              clear HO296
              clear HO299
              clear HO302
              clear BK262
              clear BK270
              clear BK293
              clear BK304
              clear HB
              have HO_271000 := n0_
              have HO_271001 := n1_
              have HO285 := n2_
              have HO288 := n3_
              have HO291 := n4_
              have HO296 := n5_
              have HO299 := n6_
              have HO302 := n7_
              have BK262 := n8_
              have BK270 := n9_
              have BK293 := n10_
              have BK304 := n11_
              have HB := n12_
              clear n0_ n1_ n2_ n3_ n4_ n5_ n6_ n7_ n8_ n9_ n10_ n11_ n12_
              (try clear hb)
              (try clear hb2)
              (try clear hk)
              (try clear hi)
              refine hK.out _ _ ⟨(blk_cell BK270.out 0).trans rfl, (blk_cell BK270.out 1).trans rfl, (blk_cell BK293.out 0).trans rfl, (blk_cell BK293.out 1).trans rfl, (blk_cell BK293.out 2).trans rfl, (blk_cell BK304.out 0).trans rfl, (blk_cell BK304.out 1).trans rfl, (blk_cell BK304.out 2).trans rfl, ((HB.out.cell (World.block_lt_of_cell? w _ hw306_0)).trans hw306_0)⟩ (fun hHeld => ?_)
              clear hK K
              refine norm_ (a' := ?_) ?_ ?_
              rotate_left
              ·
               show Act.put _ (some 149) _ = _
               simp only [Act.put, List.setIfInBounds_toArray, List.set_cons_zero, List.set_cons_succ, i64_w, i32_w]
               rfl
              refine pure_ (i := 27) (N := some 150) (v := ?_) (a' := ?_) #[T, T, T, T, T, T, T, T, T, T, T, T, T, T, T, T, T, T, T, T, T, T, T, T, T, T, T, T, F] rfl rfl (any_of HT_.out (by kernel_rfl)) (fun _ _ _ h => h) (Or.inl ⟨by rfl, ?_⟩) ?_ ?_
              rotate_left
              ·
               intro w'
               (try simp only [add_plain] at s0 s1 s2 s3 s4 s5 s6 s7 s8)
               go_simp
               with_reducible rfl
              rotate_left
              ·
               simp only [Act.put, List.setIfInBounds_toArray, List.set_cons_zero, List.set_cons_succ, i64_w, i32_w]
               rfl
              refine pure_ (i := 28) (N := some 10) (v := ?_) (a' := ?_) #[T, T, T, T, T, T, T, T, T, T, T, T, T, T, T, T, T, T, T, T, T, T, T, T, T, T, T, T, T] rfl rfl (any_of HT_.out (by kernel_rfl)) (fun _ _ _ h => h) (Or.inl ⟨by rfl, ?_⟩) ?_ ?_
              rotate_left
              ·
               intro w'
               (try simp only [add_plain] at s0 s1 s2 s3 s4 s5 s6 s7 s8)
               go_simp
               with_reducible rfl
              rotate_left
              ·
               simp only [Act.put, List.setIfInBounds_toArray, List.set_cons_zero, List.set_cons_succ, i64_w, i32_w]
               rfl
              refine done_ (done_of HT_.out (by kernel_rfl)) ?_
              try go_wp2
              go_ret
              exact ⟨by first | rfl | (simp [errW_none, errW_some] <;> rfl) | (simp [*, errW_none, errW_some] <;> rfl), by repeat (first | (with_reducible first | exact HB.out | apply below_alloc | apply pw_below_drewN | apply below_drew1 | refine below_set ?_ GE262.out | refine below_set ?_ GE270.out | refine below_set ?_ GE293.out | refine below_set ?_ GE304.out) | exact HB.out)⟩
             ·
              replace c46 := Bool.eq_false_iff.mpr c46
              subst c46
              have H1 : (none) = some r := by rw [if_neg (show ¬ (false = true) by decide)] at H; exact H
              clear H
              have H := H1
              clear H1
              exact absurd H (by simp)
            ·
             rw [if_neg c44] at H
             exact absurd H (by simp)
           ·
            rw [if_neg c43] at H
            exact absurd H (by simp)
          ·
           rw [if_neg c42] at H
           exact absurd H (by simp)
         ·
          replace c41 := Bool.eq_false_iff.mpr c41
          subst c41
          have H1 : (none) = some r := by rw [if_neg (show ¬ (false = true) by decide)] at H; exact H
          clear H
          have H := H1
          clear H1
          exact absurd H (by simp)
        ·
         replace c37 := Bool.eq_false_iff.mpr c37
         subst c37
         have H1 : ((offertorylaw25_awake.f).bind fun t281 => (if t281 = true then (if t269 = 11 then ((offertorylaw25_alike.f k2 t263 t266 ([] : List (List Int)) ([] : List (List (List Int)))).bind fun t282 => (some t282)) else (none)) else (none))) = some r := by rw [if_neg (show ¬ (false = true) by decide)] at H; exact H
         clear H
         have H := H1
         clear H1
         replace H := Option.bind_eq_some_iff.mp H
         obtain ⟨t281, A730, H⟩ := H
         replace H : (if t281 = true then (if t269 = 11 then ((offertorylaw25_alike.f k2 t263 t266 ([] : List (List Int)) ([] : List (List (List Int)))).bind fun t282 => (some t282)) else (none)) else (none)) = some r := H
         have A73 := Aside0.mk A730
         clear A730
         by_cases c74 : t281 = true
         ·
          subst c74
          have H1 : (if t269 = 11 then ((offertorylaw25_alike.f k2 t263 t266 ([] : List (List Int)) ([] : List (List (List Int)))).bind fun t282 => (some t282)) else (none)) = some r := by rw [if_pos rfl] at H; exact H
          clear H
          have H := H1
          clear H1
          by_cases c75 : t269 = 11
          ·
           rw [if_pos c75] at H
           have c75b0 : (t269 == 11) = true := beq_iff_eq.mpr c75
           have c75b1 : (t269 != 11) = false := bne_eq_false_iff_eq.mpr c75
           clear c75
           replace H := Option.bind_eq_some_iff.mp H
           obtain ⟨t282, A760, H⟩ := H
           replace H : (some t282) = some r := H
           have A76 := Aside0.mk A760
           clear A760
           obtain rfl := Option.some.inj H
           have p275 : 0 ≤ (0 : Int) := (by omega)
           have q275 : 0 < (l0.length : Int) := of_decide_eq_true (by first | (with_reducible assumption) | assumption)
           obtain ⟨ad275, A275_0, c275_0, e275, hx275_0, hl275_0, hi275_0⟩ := at_L1 HR0.out 0 p275 q275
           cases e275
           have qi275 : (0 < l0.length) = True := eq_true (by omega)
           (try rw [show ((0 : Int)).toNat = 0 from rfl] at hx275_0)
           (try rw [Addr.add_zero'] at hx275_0)
           replace hx275_0 := (HB.out.cell (World.block_lt_of_cell? w _ hx275_0)).trans hx275_0
           have HR275_0 := Aside0.mk hi275_0
           have HC275_0 := Aside0.mk hl275_0
           clear hi275_0 hl275_0
           replace p275 := eq_true p275
           replace q275 := eq_true q275
           go_wp2_with (first | ((with_reducible refine gate_callee (f := 9) rfl ?_); refine goesL_ (some 97) rfl rfl Tryd.func9 (by kernel_rfl) rfl #[] rfl (by (try simp only [List.map_toArray, List.map_cons, List.map_nil]); first | done | rfl | (simp only [List.length_drop, List.length_take]; rfl)) ?_; (with_reducible refine (offertorylaw25_awake.calls  true _ (HTab.out.step (by repeat (first | (with_reducible first | exact HB.out | apply below_alloc | apply pw_below_drewN | apply below_drew1 | refine below_set ?_ (Aside0.out (by assumption))) | exact HB.out | refine below_set ?_ (Aside0.out (by assumption))))) A73.out).mono ?_); rintro e w77 ⟨rfl, hb⟩; refine ⟨_, rfl, ?_⟩; have n0_ := Aside0.mk (Kd.R_below (by (with_reducible repeat (first | apply Kd.R_alloc | apply Kd.R_drewN | apply Kd.R_drew)); exact HO_271000.out) hb); have n1_ := Aside0.mk (Kd.R_below (by (with_reducible repeat (first | apply Kd.R_alloc | apply Kd.R_drewN | apply Kd.R_drew)); exact HO_271001.out) hb); have n2_ := offertorylaw25_IdealHides.keepB BK262 hb; have n3_ := offertorylaw25_IdealHides.keepB BK270 hb; have n4_ := Aside0.mk (below_step (by repeat (first | (with_reducible first | exact HB.out | apply below_alloc | apply pw_below_drewN | apply below_drew1 | refine below_set ?_ GE262.out | refine below_set ?_ GE270.out) | exact HB.out)) hb); clear HO_271000; clear HO_271001; clear BK262; clear BK270; clear HB; have HO_271000 := n0_; have HO_271001 := n1_; have BK262 := n2_; have BK270 := n3_; have HB := n4_; clear n0_ n1_ n2_ n3_ n4_; (try clear hb); (try clear hb2); (try clear hk); (try clear hi); have hnb78 := NB270_262.out; have hnc78 := NB262_270.out; have hcz79_0 : w77.cell? ⟨gb270, 0, none⟩ = some (.slice Ao13 t263.length co13) := (blk_cell BK270.out 0).trans rfl; have hcz79_1 : w77.cell? ⟨gb270, 1, none⟩ = some (.slice Ao16 t266.length co16) := (blk_cell BK270.out 1).trans rfl; have hfz79_0 := blk_frozen BK270.out 0; have hfz79_1 := blk_frozen BK270.out 1) | (go_at_call 17; (refine (offertorylaw25_alike.calls k2 _ _ t263 _ _ t266 _ _ ([] : List (List Int)) _ _ ([] : List (List (List Int))) t282 _ ?side1 ?side2 ?side3 ?side4 ?side5 ?side6 ?side7 ?side8 A76.out).mono ?_); (case side1 => repeat (first | exact (Kd.R_reads' HO_271000.out).2.2 | (with_reducible refine Kd.C_alloc ?_ _) | (with_reducible refine Kd.C_drewN ?_ _) | (with_reducible refine Kd.C_drew ?_))); (case side2 => exact (Kd.R_reads' HO_271000.out).2.1); (case side3 => repeat (first | exact (Kd.R_reads' HO_271001.out).2.2 | (with_reducible refine Kd.C_alloc ?_ _) | (with_reducible refine Kd.C_drewN ?_ _) | (with_reducible refine Kd.C_drew ?_))); (case side4 => exact (Kd.R_reads' HO_271001.out).2.1); (case side5 => exact Kd.C_nil _ _); (case side6 => exact Nat.le_refl _); (case side7 => exact Kd.C_nil _ _); (case side8 => exact Nat.le_refl _); rintro e w80 ⟨rfl, hb⟩; have n0_ := Aside0.mk (Kd.R_below (by (with_reducible repeat (first | apply Kd.R_alloc | apply Kd.R_drewN | apply Kd.R_drew)); exact HO_271000.out) hb); have n1_ := Aside0.mk (Kd.R_below (by (with_reducible repeat (first | apply Kd.R_alloc | apply Kd.R_drewN | apply Kd.R_drew)); exact HO_271001.out) hb); have n2_ := offertorylaw25_IdealHides.keepB BK262 hb; have n3_ := offertorylaw25_IdealHides.keepB BK270 hb; have n4_ := Aside0.mk (below_step (by repeat (first | (with_reducible first | exact HB.out | apply below_alloc | apply pw_below_drewN | apply below_drew1 | refine below_set ?_ GE262.out | refine below_set ?_ GE270.out) | exact HB.out)) hb); clear HO_271000; clear HO_271001; clear BK262; clear BK270; clear HB; have HO_271000 := n0_; have HO_271001 := n1_; have BK262 := n2_; have BK270 := n3_; have HB := n4_; clear n0_ n1_ n2_ n3_ n4_; (try clear hb); (try clear hb2); (try clear hk); (try clear hi)))
           go_ret
           exact ⟨by first | rfl | (simp [errW_none, errW_some] <;> rfl) | (simp [*, errW_none, errW_some] <;> rfl), by repeat (first | (with_reducible first | exact HB.out | apply below_alloc | apply pw_below_drewN | apply below_drew1 | refine below_set ?_ GE262.out | refine below_set ?_ GE270.out) | exact HB.out)⟩
          ·
           rw [if_neg c75] at H
           exact absurd H (by simp)
         ·
          replace c74 := Bool.eq_false_iff.mpr c74
          subst c74
          have H1 : (none) = some r := by rw [if_neg (show ¬ (false = true) by decide)] at H; exact H
          clear H
          have H := H1
          clear H1
          exact absurd H (by simp)
      ·
       rw [if_neg c25] at H
       exact absurd H (by simp)
   ·
    rw [if_neg c24] at H
    have c24b0 : (x13_7 == 0) = false := beq_eq_false_iff_ne.mpr c24
    have c24b1 : (x13_7 != 0) = true := bne_iff_ne.mpr c24
    replace H := Option.bind_eq_some_iff.mp H
    obtain ⟨t273, A810, H⟩ := H
    replace H : (if t273 = true then (if t269 = x13_7 then ((offertorylaw25_alike.f kj7 t263 t266 ([] : List (List Int)) ([] : List (List (List Int)))).bind fun t274 => (some t274)) else (none)) else (none)) = some r := H
    have A81 := Aside0.mk A810
    clear A810
    by_cases c82 : t273 = true
    ·
     subst c82
     have H1 : (if t269 = x13_7 then ((offertorylaw25_alike.f kj7 t263 t266 ([] : List (List Int)) ([] : List (List (List Int)))).bind fun t274 => (some t274)) else (none)) = some r := by rw [if_pos rfl] at H; exact H
     clear H
     have H := H1
     clear H1
     by_cases c83 : t269 = x13_7
     ·
      rw [if_pos c83] at H
      have c83b0 : (t269 == x13_7) = true := beq_iff_eq.mpr c83
      have c83b1 : (t269 != x13_7) = false := bne_eq_false_iff_eq.mpr c83
      clear c83
      replace H := Option.bind_eq_some_iff.mp H
      obtain ⟨t274, A840, H⟩ := H
      replace H : (some t274) = some r := H
      have A84 := Aside0.mk A840
      clear A840
      obtain rfl := Option.some.inj H
      go_wp2_with (first | ((with_reducible refine gate_callee (f := 9) rfl ?_); refine goesL_ (some 45) rfl rfl Tryd.func9 (by kernel_rfl) rfl #[] rfl (by (try simp only [List.map_toArray, List.map_cons, List.map_nil]); first | done | rfl | (simp only [List.length_drop, List.length_take]; rfl)) ?_; (with_reducible refine (offertorylaw25_awake.calls  true _ (HTab.out.step (by repeat (first | (with_reducible first | exact HB.out | apply below_alloc | apply pw_below_drewN | apply below_drew1 | refine below_set ?_ (Aside0.out (by assumption))) | exact HB.out | refine below_set ?_ (Aside0.out (by assumption))))) A81.out).mono ?_); rintro e w85 ⟨rfl, hb⟩; refine ⟨_, rfl, ?_⟩; have n0_ := Aside0.mk (Kd.R_below (by (with_reducible repeat (first | apply Kd.R_alloc | apply Kd.R_drewN | apply Kd.R_drew)); exact HO_271000.out) hb); have n1_ := Aside0.mk (Kd.R_below (by (with_reducible repeat (first | apply Kd.R_alloc | apply Kd.R_drewN | apply Kd.R_drew)); exact HO_271001.out) hb); have n2_ := offertorylaw25_IdealHides.keepB BK262 hb; have n3_ := offertorylaw25_IdealHides.keepB BK270 hb; have n4_ := Aside0.mk (below_step (by repeat (first | (with_reducible first | exact HB.out | apply below_alloc | apply pw_below_drewN | apply below_drew1 | refine below_set ?_ GE262.out | refine below_set ?_ GE270.out) | exact HB.out)) hb); clear HO_271000; clear HO_271001; clear BK262; clear BK270; clear HB; have HO_271000 := n0_; have HO_271001 := n1_; have BK262 := n2_; have BK270 := n3_; have HB := n4_; clear n0_ n1_ n2_ n3_ n4_; (try clear hb); (try clear hb2); (try clear hk); (try clear hi); have hnb86 := NB270_262.out; have hnc86 := NB262_270.out; have hcz87_0 : w85.cell? ⟨gb270, 0, none⟩ = some (.slice Ao13 t263.length co13) := (blk_cell BK270.out 0).trans rfl; have hcz87_1 : w85.cell? ⟨gb270, 1, none⟩ = some (.slice Ao16 t266.length co16) := (blk_cell BK270.out 1).trans rfl; have hfz87_0 := blk_frozen BK270.out 0; have hfz87_1 := blk_frozen BK270.out 1) | (go_at_call 17; (refine (offertorylaw25_alike.calls kj7 _ _ t263 _ _ t266 _ _ ([] : List (List Int)) _ _ ([] : List (List (List Int))) t274 _ ?side1 ?side2 ?side3 ?side4 ?side5 ?side6 ?side7 ?side8 A84.out).mono ?_); (case side1 => repeat (first | exact (Kd.R_reads' HO_271000.out).2.2 | (with_reducible refine Kd.C_alloc ?_ _) | (with_reducible refine Kd.C_drewN ?_ _) | (with_reducible refine Kd.C_drew ?_))); (case side2 => exact (Kd.R_reads' HO_271000.out).2.1); (case side3 => repeat (first | exact (Kd.R_reads' HO_271001.out).2.2 | (with_reducible refine Kd.C_alloc ?_ _) | (with_reducible refine Kd.C_drewN ?_ _) | (with_reducible refine Kd.C_drew ?_))); (case side4 => exact (Kd.R_reads' HO_271001.out).2.1); (case side5 => exact Kd.C_nil _ _); (case side6 => exact Nat.le_refl _); (case side7 => exact Kd.C_nil _ _); (case side8 => exact Nat.le_refl _); rintro e w88 ⟨rfl, hb⟩; have n0_ := Aside0.mk (Kd.R_below (by (with_reducible repeat (first | apply Kd.R_alloc | apply Kd.R_drewN | apply Kd.R_drew)); exact HO_271000.out) hb); have n1_ := Aside0.mk (Kd.R_below (by (with_reducible repeat (first | apply Kd.R_alloc | apply Kd.R_drewN | apply Kd.R_drew)); exact HO_271001.out) hb); have n2_ := offertorylaw25_IdealHides.keepB BK262 hb; have n3_ := offertorylaw25_IdealHides.keepB BK270 hb; have n4_ := Aside0.mk (below_step (by repeat (first | (with_reducible first | exact HB.out | apply below_alloc | apply pw_below_drewN | apply below_drew1 | refine below_set ?_ GE262.out | refine below_set ?_ GE270.out) | exact HB.out)) hb); clear HO_271000; clear HO_271001; clear BK262; clear BK270; clear HB; have HO_271000 := n0_; have HO_271001 := n1_; have BK262 := n2_; have BK270 := n3_; have HB := n4_; clear n0_ n1_ n2_ n3_ n4_; (try clear hb); (try clear hb2); (try clear hk); (try clear hi)))
      go_ret
      exact ⟨by first | rfl | (simp [errW_none, errW_some] <;> rfl) | (simp [*, errW_none, errW_some] <;> rfl), by repeat (first | (with_reducible first | exact HB.out | apply below_alloc | apply pw_below_drewN | apply below_drew1 | refine below_set ?_ GE262.out | refine below_set ?_ GE270.out) | exact HB.out)⟩
     ·
      rw [if_neg c83] at H
      exact absurd H (by simp)
    ·
     replace c82 := Bool.eq_false_iff.mpr c82
     subst c82
     have H1 : (none) = some r := by rw [if_neg (show ¬ (false = true) by decide)] at H; exact H
     clear H
     have H := H1
     clear H1
     exact absurd H (by simp)

end Go.Proofs.YtpicmnkkkgedeaaDoor.PAll
