/- The Go functions that the laws reach, as Lean functions, and that each call comes to what its function says. Written by a program of this session (a turned copy of the kit's print). No condition beyond those that each theorem states. -/
import Derived.Test.YthokkogdkpmdcaaPAllx0
import Derived.Test.YthokkogdkpmdcaaPAllx2
import Derived.Test.YthokkogdkpmdcaaPAllx3
import Derived.Test.YthokkogdkpmdcaaPAllx5
import Derived.Test.YthokkogdkpmdcaaPAllx6
namespace Go.Proofs.Ythokkogdkpmdcaa.PAll
open Go.RowKit Go.Proofs.YthokkogdkpmdcaaW.PrintWords Go.Proofs.YthokkogdkpmdcaaW.PrintLast Go.Proofs.YthokkogdkpmdcaaW.PrintMore
attribute [local go_sem] max2_int min2_int max_two min_two max_three min_three max_four min_four   -- for this text's walks alone
set_option linter.unusedVariables false
set_option linter.unusedSimpArgs false

/-! ### offertorylaw28_RankBounds: function 3 -/
mutual
def offertorylaw28_RankBounds.j0 : Nat → Int → Int → Int → Int → Int → Int → Bool → Int → Int → Int → List Int → Option (Bool)
 | 0, _, _, _, _, _, _, _, _, _, _, _ => none
 | k + 1, x1, x2, x7, x8, x9, x10, x35, x150000, x150001, x150002, x150003 => if x35 = true then (offertorylaw28_RankBounds.j1 k x1 x2 x7 x8 x9 1 x150000 x150001 x150002 x150003) else (offertorylaw28_RankBounds.j1 k x1 x2 x7 x8 x9 x10 x150000 x150001 x150002 x150003)
def offertorylaw28_RankBounds.j1 : Nat → Int → Int → Int → Int → Int → Int → Int → Int → Int → List Int → Option (Bool)
 | 0, _, _, _, _, _, _, _, _, _, _ => none
 | k + 1, x1, x2, x7, x8, x9, x10, x150000, x150001, x150002, x150003 => if x10 = 0 then ((offertoryref09_Bin.f k x150000 x150001 x150002 x150003 x150000).bind fun t155 => ((offertoryref09_Bin.f k x150000 x150001 x150002 x150003 x150001).bind fun t156 => (if x1 < t155 then (offertorylaw28_RankBounds.j2 k x1 x2 x7 x8 x9 t155 t156 true x150000 x150001 x150002 x150003) else (offertorylaw28_RankBounds.j2 k x1 x2 x7 x8 x9 t155 t156 (decide (x1 > t156)) x150000 x150001 x150002 x150003)))) else ((offertorylaw28_awake.f k).bind fun t154 => (if t154 = true then (if x9 = x10 then (if x7 = 0 then (some (x8 == 0)) else (none)) else (none)) else (none)))
def offertorylaw28_RankBounds.j2 : Nat → Int → Int → Int → Int → Int → Int → Int → Bool → Int → Int → Int → List Int → Option (Bool)
 | 0, _, _, _, _, _, _, _, _, _, _, _, _ => none
 | k + 1, x1, x2, x7, x8, x9, x11, x12, x67, x150000, x150001, x150002, x150003 => if x67 = true then ((offertorylaw28_awake.f k).bind fun t157 => (if t157 = true then (if x9 = 7 then (if x7 = 0 then (some (x8 == 0)) else (none)) else (none)) else (none))) else (if x9 = 0 then (if x2 ≥ x150000 then (if x2 ≤ x150001 then ((offertoryref09_Bin.f k x150000 x150001 x150002 x150003 x2).bind fun t161 => ((offertorylaw28_awake.f k).bind fun t162 => (if t162 = true then (if x7 ≥ x150000 then (if x8 ≤ x150001 then (if x7 ≤ x8 then (if x2 ≥ x7 then (if ((t161 == x1) == (decide (x2 ≤ x8))) = true then ((offertoryref09_Bin.f k x150000 x150001 x150002 x150003 x7).bind fun t163 => (if t163 = x1 then ((offertoryref09_Bin.f k x150000 x150001 x150002 x150003 x8).bind fun t164 => (some (t164 == x1))) else (none))) else (none)) else (if ((t161 == x1) == false) = true then ((offertoryref09_Bin.f k x150000 x150001 x150002 x150003 x7).bind fun t165 => (if t165 = x1 then ((offertoryref09_Bin.f k x150000 x150001 x150002 x150003 x8).bind fun t166 => (some (t166 == x1))) else (none))) else (none))) else (none)) else (none)) else (none)) else (none)))) else ((offertorylaw28_awake.f k).bind fun t167 => (if t167 = true then (if x7 ≥ x150000 then (if x8 ≤ x150001 then (if x7 ≤ x8 then (if x2 ≥ x7 then (if (false == (decide (x2 ≤ x8))) = true then ((offertoryref09_Bin.f k x150000 x150001 x150002 x150003 x7).bind fun t168 => (if t168 = x1 then ((offertoryref09_Bin.f k x150000 x150001 x150002 x150003 x8).bind fun t169 => (some (t169 == x1))) else (none))) else (none)) else (if (false == false) = true then ((offertoryref09_Bin.f k x150000 x150001 x150002 x150003 x7).bind fun t170 => (if t170 = x1 then ((offertoryref09_Bin.f k x150000 x150001 x150002 x150003 x8).bind fun t171 => (some (t171 == x1))) else (none))) else (none))) else (none)) else (none)) else (none)) else (none)))) else ((offertorylaw28_awake.f k).bind fun t172 => (if t172 = true then (if x7 ≥ x150000 then (if x8 ≤ x150001 then (if x7 ≤ x8 then (if x2 ≥ x7 then (if (false == (decide (x2 ≤ x8))) = true then ((offertoryref09_Bin.f k x150000 x150001 x150002 x150003 x7).bind fun t173 => (if t173 = x1 then ((offertoryref09_Bin.f k x150000 x150001 x150002 x150003 x8).bind fun t174 => (some (t174 == x1))) else (none))) else (none)) else (if (false == false) = true then ((offertoryref09_Bin.f k x150000 x150001 x150002 x150003 x7).bind fun t175 => (if t175 = x1 then ((offertoryref09_Bin.f k x150000 x150001 x150002 x150003 x8).bind fun t176 => (some (t176 == x1))) else (none))) else (none))) else (none)) else (none)) else (none)) else (none)))) else ((offertorylaw28_awake.f k).bind fun t158 => (if t158 = true then (if x9 = 7 then (if x1 > x11 then (if x1 < x12 then (if 0 ≤ x1 then (if x1 < (x150003.length : Int) then (if 0 ≤ (wrap64 (x1 - 1)) then (if (wrap64 (x1 - 1)) < (x150003.length : Int) then (some (decide ((rd x150003 x1) ≤ (rd x150003 (wrap64 (x1 - 1)))))) else (none)) else (none)) else (none)) else (none)) else (none)) else (none)) else (none)) else (none))))
end
def offertorylaw28_RankBounds.f (k : Nat) (a0_0 : Int) (a0_1 : Int) (a0_2 : Int) (l0_3 : List Int) (a1 : Int) (a2 : Int) : Option (Bool) := (rank_Bounds.f k a0_0 a0_1 a0_2 l0_3 a1).bind fun bt150 => ((offertoryref09_Sound.f k a0_0 a0_1 a0_2 l0_3).bind fun t153 => (if t153 = 0 then (if a1 < 0 then (offertorylaw28_RankBounds.j0 k a1 a2 bt150.1 bt150.2.1 bt150.2.2 t153 true a0_0 a0_1 a0_2 l0_3) else (offertorylaw28_RankBounds.j0 k a1 a2 bt150.1 bt150.2.1 bt150.2.2 t153 (decide (a1 > (l0_3.length : Int))) a0_0 a0_1 a0_2 l0_3)) else (offertorylaw28_RankBounds.j0 k a1 a2 bt150.1 bt150.2.1 bt150.2.2 t153 false a0_0 a0_1 a0_2 l0_3)))
theorem offertorylaw28_RankBounds.mono_l : ∀ k, (∀ y0 y1 y2 y3 y4 y5 y6 y7 y8 y9 y10, LeO (offertorylaw28_RankBounds.j0 k y0 y1 y2 y3 y4 y5 y6 y7 y8 y9 y10) (offertorylaw28_RankBounds.j0 (k + 1) y0 y1 y2 y3 y4 y5 y6 y7 y8 y9 y10)) ∧ (∀ y0 y1 y2 y3 y4 y5 y6 y7 y8 y9, LeO (offertorylaw28_RankBounds.j1 k y0 y1 y2 y3 y4 y5 y6 y7 y8 y9) (offertorylaw28_RankBounds.j1 (k + 1) y0 y1 y2 y3 y4 y5 y6 y7 y8 y9)) ∧ (∀ y0 y1 y2 y3 y4 y5 y6 y7 y8 y9 y10 y11, LeO (offertorylaw28_RankBounds.j2 k y0 y1 y2 y3 y4 y5 y6 y7 y8 y9 y10 y11) (offertorylaw28_RankBounds.j2 (k + 1) y0 y1 y2 y3 y4 y5 y6 y7 y8 y9 y10 y11))
 | 0 => ⟨fun _ _ _ _ _ _ _ _ _ _ _ r h => by simp [offertorylaw28_RankBounds.j0] at h, fun _ _ _ _ _ _ _ _ _ _ r h => by simp [offertorylaw28_RankBounds.j1] at h, fun _ _ _ _ _ _ _ _ _ _ _ _ r h => by simp [offertorylaw28_RankBounds.j2] at h⟩
 | k + 1 => by
  obtain ⟨ih0, ih1, ih2⟩ := offertorylaw28_RankBounds.mono_l k
  refine ⟨?_, ?_, ?_⟩
  ·
   intro y0 y1 y2 y3 y4 y5 y6 y7 y8 y9 y10
   unfold offertorylaw28_RankBounds.j0
   repeat' first
   | (with_reducible exact ih0 _ _ _ _ _ _ _ _ _ _ _)
   | (with_reducible exact ih1 _ _ _ _ _ _ _ _ _ _)
   | (with_reducible exact ih2 _ _ _ _ _ _ _ _ _ _ _ _)
   | (with_reducible exact offertorylaw28_awake.mono _)
   | (with_reducible exact offertoryref09_Bin.mono _ _ _ _ _ _)
   | (with_reducible exact offertoryref09_Sound.mono _ _ _ _ _)
   | (with_reducible exact rank_Bounds.mono _ _ _ _ _ _)
   | (with_reducible exact LeO.refl _)
   | (with_reducible exact LeO.none _)
   | (with_reducible refine LeO.ite ?_ ?_)
   | (with_reducible refine LeO.bind ?_ (fun _ => ?_))
   | exact ih0 _ _ _ _ _ _ _ _ _ _ _
   | exact ih1 _ _ _ _ _ _ _ _ _ _
   | exact ih2 _ _ _ _ _ _ _ _ _ _ _ _
   | exact offertorylaw28_awake.mono _
   | exact offertoryref09_Bin.mono _ _ _ _ _ _
   | exact offertoryref09_Sound.mono _ _ _ _ _
   | exact rank_Bounds.mono _ _ _ _ _ _
   | exact LeO.none _
   | refine LeO.ite ?_ ?_
   | refine LeO.bind ?_ (fun _ => ?_)
  ·
   intro y0 y1 y2 y3 y4 y5 y6 y7 y8 y9
   unfold offertorylaw28_RankBounds.j1
   repeat' first
   | (with_reducible exact ih0 _ _ _ _ _ _ _ _ _ _ _)
   | (with_reducible exact ih1 _ _ _ _ _ _ _ _ _ _)
   | (with_reducible exact ih2 _ _ _ _ _ _ _ _ _ _ _ _)
   | (with_reducible exact offertorylaw28_awake.mono _)
   | (with_reducible exact offertoryref09_Bin.mono _ _ _ _ _ _)
   | (with_reducible exact offertoryref09_Sound.mono _ _ _ _ _)
   | (with_reducible exact rank_Bounds.mono _ _ _ _ _ _)
   | (with_reducible exact LeO.refl _)
   | (with_reducible exact LeO.none _)
   | (with_reducible refine LeO.ite ?_ ?_)
   | (with_reducible refine LeO.bind ?_ (fun _ => ?_))
   | exact ih0 _ _ _ _ _ _ _ _ _ _ _
   | exact ih1 _ _ _ _ _ _ _ _ _ _
   | exact ih2 _ _ _ _ _ _ _ _ _ _ _ _
   | exact offertorylaw28_awake.mono _
   | exact offertoryref09_Bin.mono _ _ _ _ _ _
   | exact offertoryref09_Sound.mono _ _ _ _ _
   | exact rank_Bounds.mono _ _ _ _ _ _
   | exact LeO.none _
   | refine LeO.ite ?_ ?_
   | refine LeO.bind ?_ (fun _ => ?_)
  ·
   intro y0 y1 y2 y3 y4 y5 y6 y7 y8 y9 y10 y11
   unfold offertorylaw28_RankBounds.j2
   repeat' first
   | (with_reducible exact ih0 _ _ _ _ _ _ _ _ _ _ _)
   | (with_reducible exact ih1 _ _ _ _ _ _ _ _ _ _)
   | (with_reducible exact ih2 _ _ _ _ _ _ _ _ _ _ _ _)
   | (with_reducible exact offertorylaw28_awake.mono _)
   | (with_reducible exact offertoryref09_Bin.mono _ _ _ _ _ _)
   | (with_reducible exact offertoryref09_Sound.mono _ _ _ _ _)
   | (with_reducible exact rank_Bounds.mono _ _ _ _ _ _)
   | (with_reducible exact LeO.refl _)
   | (with_reducible exact LeO.none _)
   | (with_reducible refine LeO.ite ?_ ?_)
   | (with_reducible refine LeO.bind ?_ (fun _ => ?_))
   | exact ih0 _ _ _ _ _ _ _ _ _ _ _
   | exact ih1 _ _ _ _ _ _ _ _ _ _
   | exact ih2 _ _ _ _ _ _ _ _ _ _ _ _
   | exact offertorylaw28_awake.mono _
   | exact offertoryref09_Bin.mono _ _ _ _ _ _
   | exact offertoryref09_Sound.mono _ _ _ _ _
   | exact rank_Bounds.mono _ _ _ _ _ _
   | exact LeO.none _
   | refine LeO.ite ?_ ?_
   | refine LeO.bind ?_ (fun _ => ?_)
theorem offertorylaw28_RankBounds.mono : ∀ a0 a1 a2 a3 a4 a5 k, LeO (offertorylaw28_RankBounds.f k a0 a1 a2 a3 a4 a5) (offertorylaw28_RankBounds.f (k + 1) a0 a1 a2 a3 a4 a5) := by
 intro a0 a1 a2 a3 a4 a5 k
 obtain ⟨ih0, ih1, ih2⟩ := offertorylaw28_RankBounds.mono_l k
 unfold offertorylaw28_RankBounds.f
 repeat' first
   | (with_reducible exact ih0 _ _ _ _ _ _ _ _ _ _ _)
   | (with_reducible exact ih1 _ _ _ _ _ _ _ _ _ _)
   | (with_reducible exact ih2 _ _ _ _ _ _ _ _ _ _ _ _)
   | (with_reducible exact offertorylaw28_awake.mono _)
   | (with_reducible exact offertoryref09_Bin.mono _ _ _ _ _ _)
   | (with_reducible exact offertoryref09_Sound.mono _ _ _ _ _)
   | (with_reducible exact rank_Bounds.mono _ _ _ _ _ _)
   | (with_reducible exact LeO.refl _)
   | (with_reducible exact LeO.none _)
   | (with_reducible refine LeO.ite ?_ ?_)
   | (with_reducible refine LeO.bind ?_ (fun _ => ?_))
   | exact ih0 _ _ _ _ _ _ _ _ _ _ _
   | exact ih1 _ _ _ _ _ _ _ _ _ _
   | exact ih2 _ _ _ _ _ _ _ _ _ _ _ _
   | exact offertorylaw28_awake.mono _
   | exact offertoryref09_Bin.mono _ _ _ _ _ _
   | exact offertoryref09_Sound.mono _ _ _ _ _
   | exact rank_Bounds.mono _ _ _ _ _ _
   | exact LeO.none _
   | refine LeO.ite ?_ ?_
   | refine LeO.bind ?_ (fun _ => ?_)
def offertorylaw28_RankBounds.T7 : Bool × List (List Nat × List Nat) := (true, [([], []), ([], []), ([1], [1]), ([0, 2], [0, 2]), ([], []), ([], []), ([5], [5]), ([4, 6, 3], [4, 6]), ([3, 7, 0, 1, 2, 3], [3]), ([7, 8, 0, 1, 2, 3, 4, 5, 6, 7, 8], [7])])
def offertorylaw28_RankBounds.B7 : List Nat := [0, 0, 2, 7, 0, 0, 32, 127, 255, 511]
theorem offertorylaw28_RankBounds.tab7 : rtab .any (opsOf Try.f3 7) = offertorylaw28_RankBounds.T7 := by kernel_rfl
theorem offertorylaw28_RankBounds.bits7 : waitsOk offertorylaw28_RankBounds.T7.2 offertorylaw28_RankBounds.B7 = true := by kernel_rfl
def offertorylaw28_RankBounds.T11 : Bool × List (List Nat × List Nat) := (true, [([], []), ([0, 0], [0]), ([1], [1]), ([2, 1], [1, 2]), ([1, 3], [1, 3]), ([4, 1], [4]), ([5], [5]), ([5], [5]), ([6, 7, 5], [5, 6, 7]), ([5, 8], [5, 8]), ([9, 5], [9]), ([10], [10]), ([10], [10]), ([11, 12, 10], [10, 11, 12]), ([10, 13], [10, 13]), ([14, 10], [14]), ([15], [15]), ([16, 15], [15, 16]), ([15], [15]), ([17, 18, 15], [15, 17, 18]), ([19, 15], [15, 19]), ([15], [15]), ([21, 15], [15, 21]), ([15], [15]), ([23, 15], [15, 23]), ([22, 24, 15], [15, 22, 24]), ([25, 15], [15, 25]), ([20, 26, 15], [15, 20, 26]), ([15, 27], [15, 27]), ([28, 15, 0, 1, 2, 3, 4, 5, 6, 7, 8, 9, 10, 11, 12, 13, 14, 15, 16, 17, 18, 19, 20, 21, 22, 23, 24, 25, 26, 27, 28], [28])])
def offertorylaw28_RankBounds.B11 : List Nat := [0, 1, 3, 7, 15, 31, 63, 63, 255, 511, 1023, 2047, 2047, 8191, 16383, 32767, 65535, 131071, 65535, 524287, 1048575, 65535, 2162687, 65535, 8454143, 31522815, 65077247, 134217727, 268435455, 536870911]
theorem offertorylaw28_RankBounds.tab11 : rtab .any (opsOf Try.f3 11) = offertorylaw28_RankBounds.T11 := by kernel_rfl
theorem offertorylaw28_RankBounds.bits11 : waitsOk offertorylaw28_RankBounds.T11.2 offertorylaw28_RankBounds.B11 = true := by kernel_rfl
set_option maxHeartbeats 8000000 in
set_option maxRecDepth 100000 in
theorem offertorylaw28_RankBounds.calls (k : Nat) (a0_0 : Int) (a0_1 : Int) (a0_2 : Int) (A0_3 : Option Addr) (c0_3 : Nat) (l0_3 : List Int) (a1 : Int) (a2 : Int) (r : Bool) (w : World) (hr0_3 : Kd.C (Kd.int .i64) w A0_3 l0_3.length l0_3) (hc0_3 : l0_3.length ≤ c0_3) (h : offertorylaw28_RankBounds.f k a0_0 a0_1 a0_2 l0_3 a1 a2 = some r) :
  Calls Try.prog 3 #[.agg #[.int .i64 a0_0, .int .i64 a0_1, .int .i64 a0_2, .slice A0_3 l0_3.length c0_3], .int .i64 a1, .int .i64 a2] w fun e w' => e = .returned (.bool r) ∧ Below w.heap.size w w' := by
 have hu24 := Try.underlying24
 have HR0_3 := Aside0.mk hr0_3
 have HC0_3 := Aside0.mk hc0_3
 clear hr0_3 hc0_3
 have HB := Aside0.mk (Below.refl w.heap.size w)
 have H : ((rank_Bounds.f k a0_0 a0_1 a0_2 l0_3 a1).bind fun bt150 => ((offertoryref09_Sound.f k a0_0 a0_1 a0_2 l0_3).bind fun t153 => (if t153 = 0 then (if a1 < 0 then (offertorylaw28_RankBounds.j0 k a1 a2 bt150.1 bt150.2.1 bt150.2.2 t153 true a0_0 a0_1 a0_2 l0_3) else (offertorylaw28_RankBounds.j0 k a1 a2 bt150.1 bt150.2.1 bt150.2.2 t153 (decide (a1 > (l0_3.length : Int))) a0_0 a0_1 a0_2 l0_3)) else (offertorylaw28_RankBounds.j0 k a1 a2 bt150.1 bt150.2.1 bt150.2.2 t153 false a0_0 a0_1 a0_2 l0_3)))) = some r := h
 clear h
 replace H := Option.bind_eq_some_iff.mp H
 obtain ⟨⟨t150, t151, t152⟩, A40, H⟩ := H
 replace H : ((offertoryref09_Sound.f k a0_0 a0_1 a0_2 l0_3).bind fun t153 => (if t153 = 0 then (if a1 < 0 then (offertorylaw28_RankBounds.j0 k a1 a2 t150 t151 t152 t153 true a0_0 a0_1 a0_2 l0_3) else (offertorylaw28_RankBounds.j0 k a1 a2 t150 t151 t152 t153 (decide (a1 > (l0_3.length : Int))) a0_0 a0_1 a0_2 l0_3)) else (offertorylaw28_RankBounds.j0 k a1 a2 t150 t151 t152 t153 false a0_0 a0_1 a0_2 l0_3))) = some r := H
 have A4 := Aside0.mk A40
 clear A40
 replace H := Option.bind_eq_some_iff.mp H
 obtain ⟨t153, A50, H⟩ := H
 replace H : (if t153 = 0 then (if a1 < 0 then (offertorylaw28_RankBounds.j0 k a1 a2 t150 t151 t152 t153 true a0_0 a0_1 a0_2 l0_3) else (offertorylaw28_RankBounds.j0 k a1 a2 t150 t151 t152 t153 (decide (a1 > (l0_3.length : Int))) a0_0 a0_1 a0_2 l0_3)) else (offertorylaw28_RankBounds.j0 k a1 a2 t150 t151 t152 t153 false a0_0 a0_1 a0_2 l0_3)) = some r := H
 have A5 := Aside0.mk A50
 clear A50
 have HC6 := Aside0.mk H
 clear H
 go_enter Try.func3, Try.ntmps3
 go_upto_region 3 with (first | ((with_reducible refine gate_dst (N := 3) rfl ?_); (try (refine gate_guard (by rfl) ?_; dsimp only)); refine box_event ?hg (N := 3) ?hd (cs := #[.int .i64 a0_0, .int .i64 a0_1, .int .i64 a0_2, .slice A0_3 l0_3.length c0_3]) (t := 24) ?hr ?_; (case hd => rfl); (case hg => rfl); (case hr => first | (go_simp; done) | (go_simp; rfl)); intro gb149 hg w7 hbox hb; have n0_ := Aside0.mk (below_step (by repeat (first | (with_reducible first | exact HB.out | apply below_alloc | apply pw_below_drewN | apply below_drew1) | exact HB.out)) hb); have n1_ := Aside0.mk (hbox); have n2_ := Aside0.mk ((by rw [hg]; exact (below_size (by repeat (first | (with_reducible first | exact HB.out | apply below_alloc | apply pw_below_drewN | apply below_drew1) | exact HB.out))) : w.heap.size ≤ gb149)); have n3_ := Aside0.mk ((by rw [hg]; exact (below_size (by repeat (first | (with_reducible first | exact HB.out | apply below_alloc | apply pw_below_drewN | apply below_drew1) | exact HB.out))) : w.heap.size ≤ gb149)); clear HB; have HB := n0_; have BK149 := n1_; have GW149 := n2_; have GE149 := n3_; clear n0_ n1_ n2_ n3_; clear hb hbox hg; have hcz8_0 : w7.cell? ⟨gb149, 0, none⟩ = some (.int .i64 a0_0) := (blk_cell BK149.out 0).trans rfl; have hcz8_1 : w7.cell? ⟨gb149, 1, none⟩ = some (.int .i64 a0_1) := (blk_cell BK149.out 1).trans rfl; have hcz8_2 : w7.cell? ⟨gb149, 2, none⟩ = some (.int .i64 a0_2) := (blk_cell BK149.out 2).trans rfl; have hcz8_3 : w7.cell? ⟨gb149, 3, none⟩ = some (.slice A0_3 l0_3.length c0_3) := (blk_cell BK149.out 3).trans rfl; have hfz8_0 := blk_frozen BK149.out 0; have hfz8_1 := blk_frozen BK149.out 1; have hfz8_2 := blk_frozen BK149.out 2; have hfz8_3 := blk_frozen BK149.out 3) | ((with_reducible refine gate_callee (f := 6) rfl ?_); refine goesL_ (some 17) rfl rfl Try.func6 (by kernel_rfl) rfl #[.agg #[.int .i64 a0_0, .int .i64 a0_1, .int .i64 a0_2, .slice A0_3 l0_3.length c0_3], .int .i64 a1] rfl (by (try simp only [List.map_toArray, List.map_cons, List.map_nil]); first | done | rfl | (simp only [List.length_drop, List.length_take]; rfl)) ?_; (with_reducible refine (rank_Bounds.calls k a0_0 a0_1 a0_2 _ _ l0_3 a1 t150 t151 t152 _ ?side1 ?side2 A4.out).mono ?_); (case side1 => repeat (first | exact (Kd.C_below HR0_3.out HB.out) | (with_reducible refine Kd.C_alloc ?_ _) | (with_reducible refine Kd.C_drewN ?_ _) | (with_reducible refine Kd.C_drew ?_))); (case side2 => exact HC0_3.out); rintro e w9 ⟨rfl, hb⟩; refine ⟨_, rfl, ?_⟩; have n0_ := Aside0.mk (blk_below (g := gb149) (o := .cells #[.int .i64 a0_0, .int .i64 a0_1, .int .i64 a0_2, .slice A0_3 l0_3.length c0_3] 24 (0, 0)) (by (with_reducible repeat (first | refine blk_drewN ?_ _ | refine blk_drew ?_ | refine blk_alloc ?_ _)); exact BK149.out) hb); have n1_ := Aside0.mk (below_step (by repeat (first | (with_reducible first | exact HB.out | apply below_alloc | apply pw_below_drewN | apply below_drew1 | refine below_set ?_ GE149.out) | exact HB.out)) hb); clear BK149; clear HB; have BK149 := n0_; have HB := n1_; clear n0_ n1_; (try clear hb); (try clear hb2); (try clear hk); (try clear hi); have hcz10_0 : w9.cell? ⟨gb149, 0, none⟩ = some (.int .i64 a0_0) := (blk_cell BK149.out 0).trans rfl; have hcz10_1 : w9.cell? ⟨gb149, 1, none⟩ = some (.int .i64 a0_1) := (blk_cell BK149.out 1).trans rfl; have hcz10_2 : w9.cell? ⟨gb149, 2, none⟩ = some (.int .i64 a0_2) := (blk_cell BK149.out 2).trans rfl; have hcz10_3 : w9.cell? ⟨gb149, 3, none⟩ = some (.slice A0_3 l0_3.length c0_3) := (blk_cell BK149.out 3).trans rfl; have hfz10_0 := blk_frozen BK149.out 0; have hfz10_1 := blk_frozen BK149.out 1; have hfz10_2 := blk_frozen BK149.out 2; have hfz10_3 := blk_frozen BK149.out 3) | ((with_reducible refine gate_callee (f := 7) rfl ?_); refine goesL_ (some 22) rfl rfl Try.func7 (by kernel_rfl) rfl #[.agg #[.int .i64 a0_0, .int .i64 a0_1, .int .i64 a0_2, .slice A0_3 l0_3.length c0_3]] rfl (by (try simp only [List.map_toArray, List.map_cons, List.map_nil]); first | done | rfl | (simp only [List.length_drop, List.length_take]; rfl)) ?_; (with_reducible refine (offertoryref09_Sound.calls k a0_0 a0_1 a0_2 _ _ l0_3 t153 _ ?side1 ?side2 A5.out).mono ?_); (case side1 => repeat (first | exact (Kd.C_below HR0_3.out HB.out) | (with_reducible refine Kd.C_alloc ?_ _) | (with_reducible refine Kd.C_drewN ?_ _) | (with_reducible refine Kd.C_drew ?_))); (case side2 => exact HC0_3.out); rintro e w11 ⟨rfl, hb⟩; refine ⟨_, rfl, ?_⟩; have n0_ := Aside0.mk (blk_below (g := gb149) (o := .cells #[.int .i64 a0_0, .int .i64 a0_1, .int .i64 a0_2, .slice A0_3 l0_3.length c0_3] 24 (0, 0)) (by (with_reducible repeat (first | refine blk_drewN ?_ _ | refine blk_drew ?_ | refine blk_alloc ?_ _)); exact BK149.out) hb); have n1_ := Aside0.mk (below_step (by repeat (first | (with_reducible first | exact HB.out | apply below_alloc | apply pw_below_drewN | apply below_drew1 | refine below_set ?_ GE149.out) | exact HB.out)) hb); clear BK149; clear HB; have BK149 := n0_; have HB := n1_; clear n0_ n1_; (try clear hb); (try clear hb2); (try clear hk); (try clear hi)))
 (try simp only [Act.put, List.setIfInBounds_toArray, List.set_cons_zero, List.set_cons_succ])
 go_cut [35] (fun v35 wc => ∃ (kq : Nat) (x35_5 : Bool), v35 = .bool x35_5 ∧ Aside0 (offertorylaw28_RankBounds.j0 kq a1 a2 t150 t151 t152 t153 x35_5 a0_0 a0_1 a0_2 l0_3 = some r) ∧ Aside0 (kq ≤ k) ∧ Aside0 (wc.heap[gb149]? = some (.cells #[.int .i64 a0_0, .int .i64 a0_1, .int .i64 a0_2, (.slice A0_3 l0_3.length c0_3)] 24 (0, 0))) ∧ Aside0 (Below w.heap.size w wc))
 case first =>
  have H := HC6.out
  clear HC6
  by_cases c12 : t153 = 0
  ·
   rw [if_pos c12] at H
   have c12b0 : (t153 == 0) = true := beq_iff_eq.mpr c12
   have c12b1 : (t153 != 0) = false := bne_eq_false_iff_eq.mpr c12
   clear c12
   (first | rw [c12b0] | (simp only [i64_w, i32_w]; rw [c12b0]) | skip)
   by_cases c13 : a1 < 0
   ·
    rw [if_pos c13] at H
    have c13b0 : decide (a1 < 0) = true := decide_eq_true c13
    clear c13
    have H' := Aside0.mk H
    clear H
    go_wp2
    go_meet
    case rel => exact ⟨_, (true), (by first | rfl | (simp; done) | (simp [*]; done)), H', ⟨by first | omega | exact Nat.le_refl _⟩, ⟨by (with_reducible repeat (first | refine blk_drewN ?_ _ | refine blk_drew ?_ | refine blk_alloc ?_ _)); exact BK149.out⟩, ⟨by repeat (first | (with_reducible first | exact HB.out | apply below_alloc | apply pw_below_drewN | apply below_drew1 | refine below_set ?_ GE149.out) | exact HB.out)⟩⟩
   ·
    rw [if_neg c13] at H
    have c13b0 : decide (a1 < 0) = false := decide_eq_false c13
    clear c13
    have H' := Aside0.mk H
    clear H
    have hcz14_0 : w11.cell? ⟨gb149, 0, none⟩ = some (.int .i64 a0_0) := (blk_cell BK149.out 0).trans rfl
    have hcz14_1 : w11.cell? ⟨gb149, 1, none⟩ = some (.int .i64 a0_1) := (blk_cell BK149.out 1).trans rfl
    have hcz14_2 : w11.cell? ⟨gb149, 2, none⟩ = some (.int .i64 a0_2) := (blk_cell BK149.out 2).trans rfl
    have hcz14_3 : w11.cell? ⟨gb149, 3, none⟩ = some (.slice A0_3 l0_3.length c0_3) := (blk_cell BK149.out 3).trans rfl
    have hfz14_0 := blk_frozen BK149.out 0
    have hfz14_1 := blk_frozen BK149.out 1
    have hfz14_2 := blk_frozen BK149.out 2
    have hfz14_3 := blk_frozen BK149.out 3
    go_wp2
    go_meet
    case rel => exact ⟨_, (decide (a1 > (l0_3.length : Int))), (by first | rfl | (simp; done) | (simp [*]; done)), H', ⟨by first | omega | exact Nat.le_refl _⟩, ⟨by (with_reducible repeat (first | refine blk_drewN ?_ _ | refine blk_drew ?_ | refine blk_alloc ?_ _)); exact BK149.out⟩, ⟨by repeat (first | (with_reducible first | exact HB.out | apply below_alloc | apply pw_below_drewN | apply below_drew1 | refine below_set ?_ GE149.out) | exact HB.out)⟩⟩
  ·
   rw [if_neg c12] at H
   have c12b0 : (t153 == 0) = false := beq_eq_false_iff_ne.mpr c12
   have c12b1 : (t153 != 0) = true := bne_iff_ne.mpr c12
   (first | rw [c12b0] | (simp only [i64_w, i32_w]; rw [c12b0]) | skip)
   have H' := Aside0.mk H
   clear H
   go_wp2
   go_meet
   case rel => exact ⟨_, (false), (by first | rfl | (simp; done) | (simp [*]; done)), H', ⟨by first | omega | exact Nat.le_refl _⟩, ⟨by (with_reducible repeat (first | refine blk_drewN ?_ _ | refine blk_drew ?_ | refine blk_alloc ?_ _)); exact BK149.out⟩, ⟨by repeat (first | (with_reducible first | exact HB.out | apply below_alloc | apply pw_below_drewN | apply below_drew1 | refine below_set ?_ GE149.out) | exact HB.out)⟩⟩
 case rest =>
  clear HC6
  try clear c1
  try clear p2
  try clear c3
  try clear c6
  try clear c7
  try clear c12
  try clear c12b0
  try clear c12b1
  try clear c13
  try clear c13b0
  try clear hcz10_0
  try clear hcz10_1
  try clear hcz10_2
  try clear hcz10_3
  try clear hcz14_0
  try clear hcz14_1
  try clear hcz14_2
  try clear hcz14_3
  try clear hcz8_0
  try clear hcz8_1
  try clear hcz8_2
  try clear hcz8_3
  try clear hfz10_0
  try clear hfz10_1
  try clear hfz10_2
  try clear hfz10_3
  try clear hfz14_0
  try clear hfz14_1
  try clear hfz14_2
  try clear hfz14_3
  try clear hfz8_0
  try clear hfz8_1
  try clear hfz8_2
  try clear hfz8_3
  obtain ⟨kq, x35_5, rfl, HA, HJ5, BK149, HB⟩ := hcut
  cases kq with
  | zero => exact absurd HA.out (by simp [offertorylaw28_RankBounds.j0])
  | succ kj5 =>
   have H := HA.out
   clear HA
   simp only [offertorylaw28_RankBounds.j0] at H
   have HC15 := Aside0.mk H
   clear H
   go_upto_if 35 with (fail)
   go_cut [10] (fun v10 wc => ∃ (kq : Nat) (x10_14 : Int), v10 = .int .i64 x10_14 ∧ Aside0 (offertorylaw28_RankBounds.j1 kq a1 a2 t150 t151 t152 x10_14 a0_0 a0_1 a0_2 l0_3 = some r) ∧ Aside0 (kq ≤ kj5) ∧ Aside0 (wc.heap[gb149]? = some (.cells #[.int .i64 a0_0, .int .i64 a0_1, .int .i64 a0_2, (.slice A0_3 l0_3.length c0_3)] 24 (0, 0))) ∧ Aside0 (Below w.heap.size w wc))
   case first =>
    have H := HC15.out
    clear HC15
    by_cases c16 : x35_5 = true
    ·
     subst c16
     have H1 : (offertorylaw28_RankBounds.j1 kj5 a1 a2 t150 t151 t152 1 a0_0 a0_1 a0_2 l0_3) = some r := by rw [if_pos rfl] at H; exact H
     clear H
     have H := H1
     clear H1
     have H' := Aside0.mk H
     clear H
     go_wp2
     go_meet
     case rel => exact ⟨_, (1), (by first | rfl | (simp; done) | (simp [*]; done)), H', ⟨by have := HJ5.out; first | omega | exact Nat.le_refl _⟩, ⟨by (with_reducible repeat (first | refine blk_drewN ?_ _ | refine blk_drew ?_ | refine blk_alloc ?_ _)); exact BK149.out⟩, ⟨by repeat (first | (with_reducible first | exact HB.out | apply below_alloc | apply pw_below_drewN | apply below_drew1 | refine below_set ?_ GE149.out) | exact HB.out)⟩⟩
    ·
     replace c16 := Bool.eq_false_iff.mpr c16
     subst c16
     have H1 : (offertorylaw28_RankBounds.j1 kj5 a1 a2 t150 t151 t152 t153 a0_0 a0_1 a0_2 l0_3) = some r := by rw [if_neg (show ¬ (false = true) by decide)] at H; exact H
     clear H
     have H := H1
     clear H1
     have H' := Aside0.mk H
     clear H
     go_wp2
     go_meet
     case rel => exact ⟨_, (t153), (by first | rfl | (simp; done) | (simp [*]; done)), H', ⟨by have := HJ5.out; first | omega | exact Nat.le_refl _⟩, ⟨by (with_reducible repeat (first | refine blk_drewN ?_ _ | refine blk_drew ?_ | refine blk_alloc ?_ _)); exact BK149.out⟩, ⟨by repeat (first | (with_reducible first | exact HB.out | apply below_alloc | apply pw_below_drewN | apply below_drew1 | refine below_set ?_ GE149.out) | exact HB.out)⟩⟩
   case rest =>
    clear HC15
    try clear c1
    try clear p2
    try clear c3
    try clear c6
    try clear c7
    try clear c12
    try clear c12b0
    try clear c12b1
    try clear c13
    try clear c13b0
    try clear c16
    try clear hcz10_0
    try clear hcz10_1
    try clear hcz10_2
    try clear hcz10_3
    try clear hcz14_0
    try clear hcz14_1
    try clear hcz14_2
    try clear hcz14_3
    try clear hcz8_0
    try clear hcz8_1
    try clear hcz8_2
    try clear hcz8_3
    try clear hfz10_0
    try clear hfz10_1
    try clear hfz10_2
    try clear hfz10_3
    try clear hfz14_0
    try clear hfz14_1
    try clear hfz14_2
    try clear hfz14_3
    try clear hfz8_0
    try clear hfz8_1
    try clear hfz8_2
    try clear hfz8_3
    try clear p2
    obtain ⟨kq, x10_14, rfl, HA, HJ14, BK149, HB⟩ := hcut
    cases kq with
    | zero => exact absurd HA.out (by simp [offertorylaw28_RankBounds.j1])
    | succ kj14 =>
     have H := HA.out
     clear HA
     simp only [offertorylaw28_RankBounds.j1] at H
     by_cases c17 : x10_14 = 0
     ·
      rw [if_pos c17] at H
      have c17b0 : (x10_14 == 0) = true := beq_iff_eq.mpr c17
      have c17b1 : (x10_14 != 0) = false := bne_eq_false_iff_eq.mpr c17
      clear c17
      replace H := Option.bind_eq_some_iff.mp H
      obtain ⟨t155, A180, H⟩ := H
      replace H : ((offertoryref09_Bin.f kj14 a0_0 a0_1 a0_2 l0_3 a0_1).bind fun t156 => (if a1 < t155 then (offertorylaw28_RankBounds.j2 kj14 a1 a2 t150 t151 t152 t155 t156 true a0_0 a0_1 a0_2 l0_3) else (offertorylaw28_RankBounds.j2 kj14 a1 a2 t150 t151 t152 t155 t156 (decide (a1 > t156)) a0_0 a0_1 a0_2 l0_3))) = some r := H
      have A18 := Aside0.mk A180
      clear A180
      replace H := Option.bind_eq_some_iff.mp H
      obtain ⟨t156, A190, H⟩ := H
      replace H : (if a1 < t155 then (offertorylaw28_RankBounds.j2 kj14 a1 a2 t150 t151 t152 t155 t156 true a0_0 a0_1 a0_2 l0_3) else (offertorylaw28_RankBounds.j2 kj14 a1 a2 t150 t151 t152 t155 t156 (decide (a1 > t156)) a0_0 a0_1 a0_2 l0_3)) = some r := H
      have A19 := Aside0.mk A190
      clear A190
      have HC20 := Aside0.mk H
      clear H
      try go_wp2
      have n0_ := Aside0.mk (blk_drew BK149.out)
      have n1_ := Aside0.mk (below_drew1 HB.out)
      clear BK149
      clear HB
      have BK149 := n0_
      have HB := n1_
      clear n0_ n1_
      refine start_ (n := 10) (S := fun w' => w'.cell? ⟨gb149, 0, none⟩ = some (.int .i64 a0_0) ∧ w'.cell? ⟨gb149, 1, none⟩ = some (.int .i64 a0_1) ∧ w'.cell? ⟨gb149, 2, none⟩ = some (.int .i64 a0_2) ∧ w'.cell? ⟨gb149, 3, none⟩ = some (.slice A0_3 l0_3.length c0_3)) (ds := []) #[F, F, F, F, F, F, F, F, F, F] (by kernel_rfl) rfl rfl ⟨(blk_cell BK149.out 0).trans rfl, (blk_cell BK149.out 1).trans rfl, (blk_cell BK149.out 2).trans rfl, (blk_cell BK149.out 3).trans rfl⟩ (fun hHeld => ?_); refine with_tabW offertorylaw28_RankBounds.tab7 offertorylaw28_RankBounds.bits7 (fun HT_ HW_ => ?_)
      generalize wc.drew = w21 at BK149 HB hHeld ⊢
      refine pure_ (i := 1) (N := some 53) (v := ?_) (a' := ?_) #[F, T, F, F, F, F, F, F, F, F] rfl rfl (any_of HT_.out (by kernel_rfl)) (fun _ _ _ h => h) (Or.inl ⟨by rfl, ?_⟩) ?_ ?_
      rotate_left
      ·
       intro w'
       (try simp only [add_plain] at s0 s1 s2 s3)
       go_simp
       with_reducible rfl
      rotate_left
      ·
       simp only [Act.put, List.setIfInBounds_toArray, List.set_cons_zero, List.set_cons_succ, i64_w, i32_w]
       rfl
      refine pure_ (i := 5) (N := some 57) (v := ?_) (a' := ?_) #[F, T, F, F, F, T, F, F, F, F] rfl rfl (any_of HT_.out (by kernel_rfl)) (fun _ _ _ h => h) (Or.inl ⟨by rfl, ?_⟩) ?_ ?_
      rotate_left
      ·
       intro w'
       (try simp only [add_plain] at s0 s1 s2 s3)
       go_simp
       with_reducible rfl
      rotate_left
      ·
       simp only [Act.put, List.setIfInBounds_toArray, List.set_cons_zero, List.set_cons_succ, i64_w, i32_w]
       rfl
      refine take_ (i := 0) (N := some 52) (v := ?_) (a' := ?_) #[T, T, F, F, F, T, F, F, F, F] rfl rfl (take_ofW HT_.out HW_.out (by kernel_rfl)) (fun _ _ _ h => h) (Or.inl ⟨by rfl, ?_⟩) hHeld ?_ ?_
      rotate_left
      ·
       rintro w' ⟨s0, s1, s2, s3⟩
       (try simp only [add_plain] at s0 s1 s2 s3)
       go_simp
       with_reducible rfl
      rotate_left
      ·
       simp only [Act.put, List.setIfInBounds_toArray, List.set_cons_zero, List.set_cons_succ, i64_w, i32_w]
       rfl
      refine take_ (i := 2) (N := some 54) (v := ?_) (a' := ?_) #[T, T, T, F, F, T, F, F, F, F] rfl rfl (take_ofW HT_.out HW_.out (by kernel_rfl)) (fun _ _ _ h => h) (Or.inl ⟨by rfl, ?_⟩) hHeld ?_ ?_
      rotate_left
      ·
       rintro w' ⟨s0, s1, s2, s3⟩
       (try simp only [add_plain] at s0 s1 s2 s3)
       go_simp
       with_reducible rfl
      rotate_left
      ·
       simp only [Act.put, List.setIfInBounds_toArray, List.set_cons_zero, List.set_cons_succ, i64_w, i32_w]
       rfl
      refine take_ (i := 4) (N := some 56) (v := ?_) (a' := ?_) #[T, T, T, F, T, T, F, F, F, F] rfl rfl (take_ofW HT_.out HW_.out (by kernel_rfl)) (fun _ _ _ h => h) (Or.inl ⟨by rfl, ?_⟩) hHeld ?_ ?_
      rotate_left
      ·
       rintro w' ⟨s0, s1, s2, s3⟩
       (try simp only [add_plain] at s0 s1 s2 s3)
       go_simp
       with_reducible rfl
      rotate_left
      ·
       simp only [Act.put, List.setIfInBounds_toArray, List.set_cons_zero, List.set_cons_succ, i64_w, i32_w]
       rfl
      refine take_ (i := 6) (N := some 58) (v := ?_) (a' := ?_) #[T, T, T, F, T, T, T, F, F, F] rfl rfl (take_ofW HT_.out HW_.out (by kernel_rfl)) (fun _ _ _ h => h) (Or.inl ⟨by rfl, ?_⟩) hHeld ?_ ?_
      rotate_left
      ·
       rintro w' ⟨s0, s1, s2, s3⟩
       (try simp only [add_plain] at s0 s1 s2 s3)
       go_simp
       with_reducible rfl
      rotate_left
      ·
       simp only [Act.put, List.setIfInBounds_toArray, List.set_cons_zero, List.set_cons_succ, i64_w, i32_w]
       rfl
      refine one_ (i := 3) (N := some 55) #[T, T, T, T, T, T, T, F, F, F] rfl rfl (one_of HT_.out (by kernel_rfl)) (by decide) (fun K hK => ?_)
      refine goes_ Try.func9 (by kernel_rfl) rfl #[.agg #[.int .i64 a0_0, .int .i64 a0_1, .int .i64 a0_2, .slice A0_3 l0_3.length c0_3], .int .i64 a0_0] (by rfl) rfl rfl (by (try simp only [List.map_toArray, List.map_cons, List.map_nil]); first | done | rfl | (simp only [List.length_drop, List.length_take]; rfl)) ?_
      with_reducible refine (offertoryref09_Bin.calls kj14 a0_0 a0_1 a0_2 _ _ l0_3 a0_0 t155 _ ?side1 ?side2 A18.out).mono ?_
      (case side1 => repeat (first | exact (Kd.C_below HR0_3.out HB.out) | (with_reducible refine Kd.C_alloc ?_ _) | (with_reducible refine Kd.C_drewN ?_ _) | (with_reducible refine Kd.C_drew ?_)))
      (case side2 => exact HC0_3.out)
      rintro e w22 ⟨rfl, hb⟩
      refine ⟨_, rfl, ?_⟩
      have n0_ := Aside0.mk (blk_below (g := gb149) (o := .cells #[.int .i64 a0_0, .int .i64 a0_1, .int .i64 a0_2, .slice A0_3 l0_3.length c0_3] 24 (0, 0)) (by (with_reducible repeat (first | refine blk_drewN ?_ _ | refine blk_drew ?_ | refine blk_alloc ?_ _)); exact BK149.out) hb)
      have n1_ := Aside0.mk (below_step (by repeat (first | (with_reducible first | exact HB.out | apply below_alloc | apply pw_below_drewN | apply below_drew1 | refine below_set ?_ GE149.out) | exact HB.out)) hb)
      clear BK149
      clear HB
      have BK149 := n0_
      have HB := n1_
      clear n0_ n1_
      (try clear hb)
      (try clear hb2)
      (try clear hk)
      (try clear hi)
      refine hK.out _ _ ⟨(blk_cell BK149.out 0).trans rfl, (blk_cell BK149.out 1).trans rfl, (blk_cell BK149.out 2).trans rfl, (blk_cell BK149.out 3).trans rfl⟩ (fun hHeld => ?_)
      clear hK K
      refine norm_ (a' := ?_) ?_ ?_
      rotate_left
      ·
       show Act.put _ (some 55) _ = _
       simp only [Act.put, List.setIfInBounds_toArray, List.set_cons_zero, List.set_cons_succ, i64_w, i32_w]
       rfl
      refine one_ (i := 7) (N := some 59) #[T, T, T, T, T, T, T, T, F, F] rfl rfl (one_of HT_.out (by kernel_rfl)) (by decide) (fun K hK => ?_)
      refine goes_ Try.func9 (by kernel_rfl) rfl #[.agg #[.int .i64 a0_0, .int .i64 a0_1, .int .i64 a0_2, .slice A0_3 l0_3.length c0_3], .int .i64 a0_1] (by rfl) rfl rfl (by (try simp only [List.map_toArray, List.map_cons, List.map_nil]); first | done | rfl | (simp only [List.length_drop, List.length_take]; rfl)) ?_
      with_reducible refine (offertoryref09_Bin.calls kj14 a0_0 a0_1 a0_2 _ _ l0_3 a0_1 t156 _ ?side1 ?side2 A19.out).mono ?_
      (case side1 => repeat (first | exact (Kd.C_below HR0_3.out HB.out) | (with_reducible refine Kd.C_alloc ?_ _) | (with_reducible refine Kd.C_drewN ?_ _) | (with_reducible refine Kd.C_drew ?_)))
      (case side2 => exact HC0_3.out)
      rintro e w23 ⟨rfl, hb⟩
      refine ⟨_, rfl, ?_⟩
      have n0_ := Aside0.mk (blk_below (g := gb149) (o := .cells #[.int .i64 a0_0, .int .i64 a0_1, .int .i64 a0_2, .slice A0_3 l0_3.length c0_3] 24 (0, 0)) (by (with_reducible repeat (first | refine blk_drewN ?_ _ | refine blk_drew ?_ | refine blk_alloc ?_ _)); exact BK149.out) hb)
      have n1_ := Aside0.mk (below_step (by repeat (first | (with_reducible first | exact HB.out | apply below_alloc | apply pw_below_drewN | apply below_drew1 | refine below_set ?_ GE149.out) | exact HB.out)) hb)
      clear BK149
      clear HB
      have BK149 := n0_
      have HB := n1_
      clear n0_ n1_
      (try clear hb)
      (try clear hb2)
      (try clear hk)
      (try clear hi)
      refine hK.out _ _ ⟨(blk_cell BK149.out 0).trans rfl, (blk_cell BK149.out 1).trans rfl, (blk_cell BK149.out 2).trans rfl, (blk_cell BK149.out 3).trans rfl⟩ (fun hHeld => ?_)
      clear hK K
      refine norm_ (a' := ?_) ?_ ?_
      rotate_left
      ·
       show Act.put _ (some 59) _ = _
       simp only [Act.put, List.setIfInBounds_toArray, List.set_cons_zero, List.set_cons_succ, i64_w, i32_w]
       rfl
      refine pure_ (i := 8) (N := some 11) (v := ?_) (a' := ?_) #[T, T, T, T, T, T, T, T, T, F] rfl rfl (any_of HT_.out (by kernel_rfl)) (fun _ _ _ h => h) (Or.inl ⟨by rfl, ?_⟩) ?_ ?_
      rotate_left
      ·
       intro w'
       (try simp only [add_plain] at s0 s1 s2 s3)
       go_simp
       with_reducible rfl
      rotate_left
      ·
       simp only [Act.put, List.setIfInBounds_toArray, List.set_cons_zero, List.set_cons_succ, i64_w, i32_w]
       rfl
      refine pure_ (i := 9) (N := some 12) (v := ?_) (a' := ?_) #[T, T, T, T, T, T, T, T, T, T] rfl rfl (any_of HT_.out (by kernel_rfl)) (fun _ _ _ h => h) (Or.inl ⟨by rfl, ?_⟩) ?_ ?_
      rotate_left
      ·
       intro w'
       (try simp only [add_plain] at s0 s1 s2 s3)
       go_simp
       with_reducible rfl
      rotate_left
      ·
       simp only [Act.put, List.setIfInBounds_toArray, List.set_cons_zero, List.set_cons_succ, i64_w, i32_w]
       rfl
      refine done_ (done_of HT_.out (by kernel_rfl)) ?_
      go_upto_region 8 with (fail)
      go_cut [67] (fun v67 wc => ∃ (kq : Nat) (x67_19 : Bool), v67 = .bool x67_19 ∧ Aside0 (offertorylaw28_RankBounds.j2 kq a1 a2 t150 t151 t152 t155 t156 x67_19 a0_0 a0_1 a0_2 l0_3 = some r) ∧ Aside0 (kq ≤ kj14) ∧ Aside0 (wc.heap[gb149]? = some (.cells #[.int .i64 a0_0, .int .i64 a0_1, .int .i64 a0_2, (.slice A0_3 l0_3.length c0_3)] 24 (0, 0))) ∧ Aside0 (Below w.heap.size w wc))
      case first =>
       have H := HC20.out
       clear HC20
       by_cases c24 : a1 < t155
       ·
        rw [if_pos c24] at H
        have c24b0 : decide (a1 < t155) = true := decide_eq_true c24
        clear c24
        (first | rw [c24b0] | (simp only [i64_w, i32_w]; rw [c24b0]) | skip)
        have H' := Aside0.mk H
        clear H
        go_wp2
        go_meet
        case rel => exact ⟨_, (true), (by first | rfl | (simp; done) | (simp [*]; done)), H', ⟨by have := HJ5.out; have := HJ14.out; first | omega | exact Nat.le_refl _⟩, ⟨by (with_reducible repeat (first | refine blk_drewN ?_ _ | refine blk_drew ?_ | refine blk_alloc ?_ _)); exact BK149.out⟩, ⟨by repeat (first | (with_reducible first | exact HB.out | apply below_alloc | apply pw_below_drewN | apply below_drew1 | refine below_set ?_ GE149.out) | exact HB.out)⟩⟩
       ·
        rw [if_neg c24] at H
        have c24b0 : decide (a1 < t155) = false := decide_eq_false c24
        clear c24
        (first | rw [c24b0] | (simp only [i64_w, i32_w]; rw [c24b0]) | skip)
        have H' := Aside0.mk H
        clear H
        go_wp2
        go_meet
        case rel => exact ⟨_, (decide (a1 > t156)), (by first | rfl | (simp; done) | (simp [*]; done)), H', ⟨by have := HJ5.out; have := HJ14.out; first | omega | exact Nat.le_refl _⟩, ⟨by (with_reducible repeat (first | refine blk_drewN ?_ _ | refine blk_drew ?_ | refine blk_alloc ?_ _)); exact BK149.out⟩, ⟨by repeat (first | (with_reducible first | exact HB.out | apply below_alloc | apply pw_below_drewN | apply below_drew1 | refine below_set ?_ GE149.out) | exact HB.out)⟩⟩
      case rest =>
       clear HC20
       try clear c1
       try clear c2
       try clear p2
       try clear c3
       try clear c6
       try clear c7
       try clear c9
       try clear c12
       try clear c12b0
       try clear c12b1
       try clear c13
       try clear c13b0
       try clear c16
       try clear c17
       try clear c17b0
       try clear c17b1
       try clear c24
       try clear c24b0
       try clear hcz10_0
       try clear hcz10_1
       try clear hcz10_2
       try clear hcz10_3
       try clear hcz14_0
       try clear hcz14_1
       try clear hcz14_2
       try clear hcz14_3
       try clear hcz8_0
       try clear hcz8_1
       try clear hcz8_2
       try clear hcz8_3
       try clear hfz10_0
       try clear hfz10_1
       try clear hfz10_2
       try clear hfz10_3
       try clear hfz14_0
       try clear hfz14_1
       try clear hfz14_2
       try clear hfz14_3
       try clear hfz8_0
       try clear hfz8_1
       try clear hfz8_2
       try clear hfz8_3
       try clear p2
       obtain ⟨kq, x67_19, rfl, HA, HJ19, BK149, HB⟩ := hcut
       cases kq with
       | zero => exact absurd HA.out (by simp [offertorylaw28_RankBounds.j2])
       | succ kj19 =>
        have H := HA.out
        clear HA
        simp only [offertorylaw28_RankBounds.j2] at H
        by_cases c25 : x67_19 = true
        ·
         subst c25
         have H1 : ((offertorylaw28_awake.f kj19).bind fun t157 => (if t157 = true then (if t152 = 7 then (if t150 = 0 then (some (t151 == 0)) else (none)) else (none)) else (none))) = some r := by rw [if_pos rfl] at H; exact H
         clear H
         have H := H1
         clear H1
         replace H := Option.bind_eq_some_iff.mp H
         obtain ⟨t157, A260, H⟩ := H
         replace H : (if t157 = true then (if t152 = 7 then (if t150 = 0 then (some (t151 == 0)) else (none)) else (none)) else (none)) = some r := H
         have A26 := Aside0.mk A260
         clear A260
         by_cases c27 : t157 = true
         ·
          subst c27
          have H1 : (if t152 = 7 then (if t150 = 0 then (some (t151 == 0)) else (none)) else (none)) = some r := by rw [if_pos rfl] at H; exact H
          clear H
          have H := H1
          clear H1
          by_cases c28 : t152 = 7
          ·
           rw [if_pos c28] at H
           have c28b0 : (t152 == 7) = true := beq_iff_eq.mpr c28
           have c28b1 : (t152 != 7) = false := bne_eq_false_iff_eq.mpr c28
           clear c28
           by_cases c29 : t150 = 0
           ·
            rw [if_pos c29] at H
            have c29b0 : (t150 == 0) = true := beq_iff_eq.mpr c29
            have c29b1 : (t150 != 0) = false := bne_eq_false_iff_eq.mpr c29
            clear c29
            obtain rfl := Option.some.inj H
            go_wp2_with (first | ((with_reducible refine gate_callee (f := 8) rfl ?_); refine goesL_ (some 68) rfl rfl Try.func8 (by kernel_rfl) rfl #[] rfl (by (try simp only [List.map_toArray, List.map_cons, List.map_nil]); first | done | rfl | (simp only [List.length_drop, List.length_take]; rfl)) ?_; (with_reducible refine (offertorylaw28_awake.calls kj19  true _ A26.out).mono ?_); rintro e w30 ⟨rfl, hb⟩; refine ⟨_, rfl, ?_⟩; have n0_ := Aside0.mk (blk_below (g := gb149) (o := .cells #[.int .i64 a0_0, .int .i64 a0_1, .int .i64 a0_2, .slice A0_3 l0_3.length c0_3] 24 (0, 0)) (by (with_reducible repeat (first | refine blk_drewN ?_ _ | refine blk_drew ?_ | refine blk_alloc ?_ _)); exact BK149.out) hb); have n1_ := Aside0.mk (below_step (by repeat (first | (with_reducible first | exact HB.out | apply below_alloc | apply pw_below_drewN | apply below_drew1 | refine below_set ?_ GE149.out) | exact HB.out)) hb); clear BK149; clear HB; have BK149 := n0_; have HB := n1_; clear n0_ n1_; (try clear hb); (try clear hb2); (try clear hk); (try clear hi)))
            go_ret
            exact ⟨by first | rfl | (simp [errW_none, errW_some] <;> rfl) | (simp [*, errW_none, errW_some] <;> rfl), by repeat (first | (with_reducible first | exact HB.out | apply below_alloc | apply pw_below_drewN | apply below_drew1 | refine below_set ?_ GE149.out) | exact HB.out)⟩
           ·
            rw [if_neg c29] at H
            exact absurd H (by simp)
          ·
           rw [if_neg c28] at H
           exact absurd H (by simp)
         ·
          replace c27 := Bool.eq_false_iff.mpr c27
          subst c27
          have H1 : (none) = some r := by rw [if_neg (show ¬ (false = true) by decide)] at H; exact H
          clear H
          have H := H1
          clear H1
          exact absurd H (by simp)
        ·
         replace c25 := Bool.eq_false_iff.mpr c25
         subst c25
         have H1 : (if t152 = 0 then (if a2 ≥ a0_0 then (if a2 ≤ a0_1 then ((offertoryref09_Bin.f kj19 a0_0 a0_1 a0_2 l0_3 a2).bind fun t161 => ((offertorylaw28_awake.f kj19).bind fun t162 => (if t162 = true then (if t150 ≥ a0_0 then (if t151 ≤ a0_1 then (if t150 ≤ t151 then (if a2 ≥ t150 then (if ((t161 == a1) == (decide (a2 ≤ t151))) = true then ((offertoryref09_Bin.f kj19 a0_0 a0_1 a0_2 l0_3 t150).bind fun t163 => (if t163 = a1 then ((offertoryref09_Bin.f kj19 a0_0 a0_1 a0_2 l0_3 t151).bind fun t164 => (some (t164 == a1))) else (none))) else (none)) else (if ((t161 == a1) == false) = true then ((offertoryref09_Bin.f kj19 a0_0 a0_1 a0_2 l0_3 t150).bind fun t165 => (if t165 = a1 then ((offertoryref09_Bin.f kj19 a0_0 a0_1 a0_2 l0_3 t151).bind fun t166 => (some (t166 == a1))) else (none))) else (none))) else (none)) else (none)) else (none)) else (none)))) else ((offertorylaw28_awake.f kj19).bind fun t167 => (if t167 = true then (if t150 ≥ a0_0 then (if t151 ≤ a0_1 then (if t150 ≤ t151 then (if a2 ≥ t150 then (if (false == (decide (a2 ≤ t151))) = true then ((offertoryref09_Bin.f kj19 a0_0 a0_1 a0_2 l0_3 t150).bind fun t168 => (if t168 = a1 then ((offertoryref09_Bin.f kj19 a0_0 a0_1 a0_2 l0_3 t151).bind fun t169 => (some (t169 == a1))) else (none))) else (none)) else (if (false == false) = true then ((offertoryref09_Bin.f kj19 a0_0 a0_1 a0_2 l0_3 t150).bind fun t170 => (if t170 = a1 then ((offertoryref09_Bin.f kj19 a0_0 a0_1 a0_2 l0_3 t151).bind fun t171 => (some (t171 == a1))) else (none))) else (none))) else (none)) else (none)) else (none)) else (none)))) else ((offertorylaw28_awake.f kj19).bind fun t172 => (if t172 = true then (if t150 ≥ a0_0 then (if t151 ≤ a0_1 then (if t150 ≤ t151 then (if a2 ≥ t150 then (if (false == (decide (a2 ≤ t151))) = true then ((offertoryref09_Bin.f kj19 a0_0 a0_1 a0_2 l0_3 t150).bind fun t173 => (if t173 = a1 then ((offertoryref09_Bin.f kj19 a0_0 a0_1 a0_2 l0_3 t151).bind fun t174 => (some (t174 == a1))) else (none))) else (none)) else (if (false == false) = true then ((offertoryref09_Bin.f kj19 a0_0 a0_1 a0_2 l0_3 t150).bind fun t175 => (if t175 = a1 then ((offertoryref09_Bin.f kj19 a0_0 a0_1 a0_2 l0_3 t151).bind fun t176 => (some (t176 == a1))) else (none))) else (none))) else (none)) else (none)) else (none)) else (none)))) else ((offertorylaw28_awake.f kj19).bind fun t158 => (if t158 = true then (if t152 = 7 then (if a1 > t155 then (if a1 < t156 then (if 0 ≤ a1 then (if a1 < (l0_3.length : Int) then (if 0 ≤ (wrap64 (a1 - 1)) then (if (wrap64 (a1 - 1)) < (l0_3.length : Int) then (some (decide ((rd l0_3 a1) ≤ (rd l0_3 (wrap64 (a1 - 1)))))) else (none)) else (none)) else (none)) else (none)) else (none)) else (none)) else (none)) else (none)))) = some r := by rw [if_neg (show ¬ (false = true) by decide)] at H; exact H
         clear H
         have H := H1
         clear H1
         by_cases c31 : t152 = 0
         ·
          rw [if_pos c31] at H
          have c31b0 : (t152 == 0) = true := beq_iff_eq.mpr c31
          have c31b1 : (t152 != 0) = false := bne_eq_false_iff_eq.mpr c31
          clear c31
          by_cases c32 : a2 ≥ a0_0
          ·
           rw [if_pos c32] at H
           have c32b0 : decide (a0_0 ≤ a2) = true := decide_eq_true c32
           clear c32
           by_cases c33 : a2 ≤ a0_1
           ·
            rw [if_pos c33] at H
            have c33b0 : decide (a2 ≤ a0_1) = true := decide_eq_true c33
            clear c33
            replace H := Option.bind_eq_some_iff.mp H
            obtain ⟨t161, A340, H⟩ := H
            replace H : ((offertorylaw28_awake.f kj19).bind fun t162 => (if t162 = true then (if t150 ≥ a0_0 then (if t151 ≤ a0_1 then (if t150 ≤ t151 then (if a2 ≥ t150 then (if ((t161 == a1) == (decide (a2 ≤ t151))) = true then ((offertoryref09_Bin.f kj19 a0_0 a0_1 a0_2 l0_3 t150).bind fun t163 => (if t163 = a1 then ((offertoryref09_Bin.f kj19 a0_0 a0_1 a0_2 l0_3 t151).bind fun t164 => (some (t164 == a1))) else (none))) else (none)) else (if ((t161 == a1) == false) = true then ((offertoryref09_Bin.f kj19 a0_0 a0_1 a0_2 l0_3 t150).bind fun t165 => (if t165 = a1 then ((offertoryref09_Bin.f kj19 a0_0 a0_1 a0_2 l0_3 t151).bind fun t166 => (some (t166 == a1))) else (none))) else (none))) else (none)) else (none)) else (none)) else (none))) = some r := H
            have A34 := Aside0.mk A340
            clear A340
            replace H := Option.bind_eq_some_iff.mp H
            obtain ⟨t162, A350, H⟩ := H
            replace H : (if t162 = true then (if t150 ≥ a0_0 then (if t151 ≤ a0_1 then (if t150 ≤ t151 then (if a2 ≥ t150 then (if ((t161 == a1) == (decide (a2 ≤ t151))) = true then ((offertoryref09_Bin.f kj19 a0_0 a0_1 a0_2 l0_3 t150).bind fun t163 => (if t163 = a1 then ((offertoryref09_Bin.f kj19 a0_0 a0_1 a0_2 l0_3 t151).bind fun t164 => (some (t164 == a1))) else (none))) else (none)) else (if ((t161 == a1) == false) = true then ((offertoryref09_Bin.f kj19 a0_0 a0_1 a0_2 l0_3 t150).bind fun t165 => (if t165 = a1 then ((offertoryref09_Bin.f kj19 a0_0 a0_1 a0_2 l0_3 t151).bind fun t166 => (some (t166 == a1))) else (none))) else (none))) else (none)) else (none)) else (none)) else (none)) = some r := H
            have A35 := Aside0.mk A350
            clear A350
            by_cases c36 : t162 = true
            ·
             subst c36
             have H1 : (if t150 ≥ a0_0 then (if t151 ≤ a0_1 then (if t150 ≤ t151 then (if a2 ≥ t150 then (if ((t161 == a1) == (decide (a2 ≤ t151))) = true then ((offertoryref09_Bin.f kj19 a0_0 a0_1 a0_2 l0_3 t150).bind fun t163 => (if t163 = a1 then ((offertoryref09_Bin.f kj19 a0_0 a0_1 a0_2 l0_3 t151).bind fun t164 => (some (t164 == a1))) else (none))) else (none)) else (if ((t161 == a1) == false) = true then ((offertoryref09_Bin.f kj19 a0_0 a0_1 a0_2 l0_3 t150).bind fun t165 => (if t165 = a1 then ((offertoryref09_Bin.f kj19 a0_0 a0_1 a0_2 l0_3 t151).bind fun t166 => (some (t166 == a1))) else (none))) else (none))) else (none)) else (none)) else (none)) = some r := by rw [if_pos rfl] at H; exact H
             clear H
             have H := H1
             clear H1
             by_cases c37 : t150 ≥ a0_0
             ·
              rw [if_pos c37] at H
              have c37b0 : decide (a0_0 ≤ t150) = true := decide_eq_true c37
              clear c37
              by_cases c38 : t151 ≤ a0_1
              ·
               rw [if_pos c38] at H
               have c38b0 : decide (t151 ≤ a0_1) = true := decide_eq_true c38
               clear c38
               by_cases c39 : t150 ≤ t151
               ·
                rw [if_pos c39] at H
                have c39b0 : decide (t150 ≤ t151) = true := decide_eq_true c39
                clear c39
                by_cases c40 : a2 ≥ t150
                ·
                 rw [if_pos c40] at H
                 have c40b0 : decide (t150 ≤ a2) = true := decide_eq_true c40
                 clear c40
                 by_cases c41 : ((t161 == a1) == (decide (a2 ≤ t151))) = true
                 ·
                  rw [if_pos c41] at H
                  have c41b0 : ((t161 == a1) == (decide (a2 ≤ t151))) = true := c41
                  (try (have c41b1 : decide ((t161 == a1) = (decide (a2 ≤ t151))) = true := by first | decide | simpa using c41))
                  (try (have c41b2 : ((t161 == a1) == (decide (a2 ≤ t151))) = true := by first | decide | simpa using c41))
                  clear c41
                  replace H := Option.bind_eq_some_iff.mp H
                  obtain ⟨t163, A420, H⟩ := H
                  replace H : (if t163 = a1 then ((offertoryref09_Bin.f kj19 a0_0 a0_1 a0_2 l0_3 t151).bind fun t164 => (some (t164 == a1))) else (none)) = some r := H
                  have A42 := Aside0.mk A420
                  clear A420
                  by_cases c43 : t163 = a1
                  ·
                   rw [if_pos c43] at H
                   have c43b0 : (t163 == a1) = true := beq_iff_eq.mpr c43
                   have c43b1 : (t163 != a1) = false := bne_eq_false_iff_eq.mpr c43
                   clear c43
                   replace H := Option.bind_eq_some_iff.mp H
                   obtain ⟨t164, A440, H⟩ := H
                   replace H : (some (t164 == a1)) = some r := H
                   have A44 := Aside0.mk A440
                   clear A440
                   obtain rfl := Option.some.inj H
                   have hcz45_0 : wc.cell? ⟨gb149, 0, none⟩ = some (.int .i64 a0_0) := (blk_cell BK149.out 0).trans rfl
                   have hcz45_1 : wc.cell? ⟨gb149, 1, none⟩ = some (.int .i64 a0_1) := (blk_cell BK149.out 1).trans rfl
                   have hcz45_2 : wc.cell? ⟨gb149, 2, none⟩ = some (.int .i64 a0_2) := (blk_cell BK149.out 2).trans rfl
                   have hcz45_3 : wc.cell? ⟨gb149, 3, none⟩ = some (.slice A0_3 l0_3.length c0_3) := (blk_cell BK149.out 3).trans rfl
                   have hfz45_0 := blk_frozen BK149.out 0
                   have hfz45_1 := blk_frozen BK149.out 1
                   have hfz45_2 := blk_frozen BK149.out 2
                   have hfz45_3 := blk_frozen BK149.out 3
                   go_wp2_with (first | (go_at_call 9; (with_reducible refine (offertoryref09_Bin.calls kj19 a0_0 a0_1 a0_2 _ _ l0_3 a2 t161 _ ?side1 ?side2 A34.out).mono ?_); (case side1 => repeat (first | exact (Kd.C_below HR0_3.out HB.out) | (with_reducible refine Kd.C_alloc ?_ _) | (with_reducible refine Kd.C_drewN ?_ _) | (with_reducible refine Kd.C_drew ?_))); (case side2 => exact HC0_3.out); rintro e w46 ⟨rfl, hb⟩; have n0_ := Aside0.mk (blk_below (g := gb149) (o := .cells #[.int .i64 a0_0, .int .i64 a0_1, .int .i64 a0_2, .slice A0_3 l0_3.length c0_3] 24 (0, 0)) (by (with_reducible repeat (first | refine blk_drewN ?_ _ | refine blk_drew ?_ | refine blk_alloc ?_ _)); exact BK149.out) hb); have n1_ := Aside0.mk (below_step (by repeat (first | (with_reducible first | exact HB.out | apply below_alloc | apply pw_below_drewN | apply below_drew1 | refine below_set ?_ GE149.out) | exact HB.out)) hb); clear BK149; clear HB; have BK149 := n0_; have HB := n1_; clear n0_ n1_; (try clear hb); (try clear hb2); (try clear hk); (try clear hi)) | ((with_reducible refine gate_callee (f := 8) rfl ?_); refine goesL_ (some 129) rfl rfl Try.func8 (by kernel_rfl) rfl #[] rfl (by (try simp only [List.map_toArray, List.map_cons, List.map_nil]); first | done | rfl | (simp only [List.length_drop, List.length_take]; rfl)) ?_; (with_reducible refine (offertorylaw28_awake.calls kj19  true _ A35.out).mono ?_); rintro e w47 ⟨rfl, hb⟩; refine ⟨_, rfl, ?_⟩; have n0_ := Aside0.mk (blk_below (g := gb149) (o := .cells #[.int .i64 a0_0, .int .i64 a0_1, .int .i64 a0_2, .slice A0_3 l0_3.length c0_3] 24 (0, 0)) (by (with_reducible repeat (first | refine blk_drewN ?_ _ | refine blk_drew ?_ | refine blk_alloc ?_ _)); exact BK149.out) hb); have n1_ := Aside0.mk (below_step (by repeat (first | (with_reducible first | exact HB.out | apply below_alloc | apply pw_below_drewN | apply below_drew1 | refine below_set ?_ GE149.out) | exact HB.out)) hb); clear BK149; clear HB; have BK149 := n0_; have HB := n1_; clear n0_ n1_; (try clear hb); (try clear hb2); (try clear hk); (try clear hi); have hcz48_0 : w47.cell? ⟨gb149, 0, none⟩ = some (.int .i64 a0_0) := (blk_cell BK149.out 0).trans rfl; have hcz48_1 : w47.cell? ⟨gb149, 1, none⟩ = some (.int .i64 a0_1) := (blk_cell BK149.out 1).trans rfl; have hcz48_2 : w47.cell? ⟨gb149, 2, none⟩ = some (.int .i64 a0_2) := (blk_cell BK149.out 2).trans rfl; have hcz48_3 : w47.cell? ⟨gb149, 3, none⟩ = some (.slice A0_3 l0_3.length c0_3) := (blk_cell BK149.out 3).trans rfl; have hfz48_0 := blk_frozen BK149.out 0; have hfz48_1 := blk_frozen BK149.out 1; have hfz48_2 := blk_frozen BK149.out 2; have hfz48_3 := blk_frozen BK149.out 3) | (go_at_call 9; (with_reducible refine (offertoryref09_Bin.calls kj19 a0_0 a0_1 a0_2 _ _ l0_3 t150 t163 _ ?side1 ?side2 A42.out).mono ?_); (case side1 => repeat (first | exact (Kd.C_below HR0_3.out HB.out) | (with_reducible refine Kd.C_alloc ?_ _) | (with_reducible refine Kd.C_drewN ?_ _) | (with_reducible refine Kd.C_drew ?_))); (case side2 => exact HC0_3.out); rintro e w49 ⟨rfl, hb⟩; have n0_ := Aside0.mk (blk_below (g := gb149) (o := .cells #[.int .i64 a0_0, .int .i64 a0_1, .int .i64 a0_2, .slice A0_3 l0_3.length c0_3] 24 (0, 0)) (by (with_reducible repeat (first | refine blk_drewN ?_ _ | refine blk_drew ?_ | refine blk_alloc ?_ _)); exact BK149.out) hb); have n1_ := Aside0.mk (below_step (by repeat (first | (with_reducible first | exact HB.out | apply below_alloc | apply pw_below_drewN | apply below_drew1 | refine below_set ?_ GE149.out) | exact HB.out)) hb); clear BK149; clear HB; have BK149 := n0_; have HB := n1_; clear n0_ n1_; (try clear hb); (try clear hb2); (try clear hk); (try clear hi); have hcz50_0 : w49.cell? ⟨gb149, 0, none⟩ = some (.int .i64 a0_0) := (blk_cell BK149.out 0).trans rfl; have hcz50_1 : w49.cell? ⟨gb149, 1, none⟩ = some (.int .i64 a0_1) := (blk_cell BK149.out 1).trans rfl; have hcz50_2 : w49.cell? ⟨gb149, 2, none⟩ = some (.int .i64 a0_2) := (blk_cell BK149.out 2).trans rfl; have hcz50_3 : w49.cell? ⟨gb149, 3, none⟩ = some (.slice A0_3 l0_3.length c0_3) := (blk_cell BK149.out 3).trans rfl; have hfz50_0 := blk_frozen BK149.out 0; have hfz50_1 := blk_frozen BK149.out 1; have hfz50_2 := blk_frozen BK149.out 2; have hfz50_3 := blk_frozen BK149.out 3) | (go_at_call 9; (with_reducible refine (offertoryref09_Bin.calls kj19 a0_0 a0_1 a0_2 _ _ l0_3 t151 t164 _ ?side1 ?side2 A44.out).mono ?_); (case side1 => repeat (first | exact (Kd.C_below HR0_3.out HB.out) | (with_reducible refine Kd.C_alloc ?_ _) | (with_reducible refine Kd.C_drewN ?_ _) | (with_reducible refine Kd.C_drew ?_))); (case side2 => exact HC0_3.out); rintro e w51 ⟨rfl, hb⟩; have n0_ := Aside0.mk (blk_below (g := gb149) (o := .cells #[.int .i64 a0_0, .int .i64 a0_1, .int .i64 a0_2, .slice A0_3 l0_3.length c0_3] 24 (0, 0)) (by (with_reducible repeat (first | refine blk_drewN ?_ _ | refine blk_drew ?_ | refine blk_alloc ?_ _)); exact BK149.out) hb); have n1_ := Aside0.mk (below_step (by repeat (first | (with_reducible first | exact HB.out | apply below_alloc | apply pw_below_drewN | apply below_drew1 | refine below_set ?_ GE149.out) | exact HB.out)) hb); clear BK149; clear HB; have BK149 := n0_; have HB := n1_; clear n0_ n1_; (try clear hb); (try clear hb2); (try clear hk); (try clear hi)))
                   go_ret
                   exact ⟨by first | rfl | (simp [errW_none, errW_some] <;> rfl) | (simp [*, errW_none, errW_some] <;> rfl), by repeat (first | (with_reducible first | exact HB.out | apply below_alloc | apply pw_below_drewN | apply below_drew1 | refine below_set ?_ GE149.out) | exact HB.out)⟩
                  ·
                   rw [if_neg c43] at H
                   exact absurd H (by simp)
                 ·
                  rw [if_neg c41] at H
                  exact absurd H (by simp)
                ·
                 rw [if_neg c40] at H
                 have c40b0 : decide (t150 ≤ a2) = false := decide_eq_false c40
                 clear c40
                 by_cases c52 : ((t161 == a1) == false) = true
                 ·
                  rw [if_pos c52] at H
                  have c52b0 : ((t161 == a1) == false) = true := c52
                  (try (have c52b1 : decide ((t161 == a1) = false) = true := by first | decide | simpa using c52))
                  (try (have c52b2 : ((t161 == a1) == false) = true := by first | decide | simpa using c52))
                  clear c52
                  replace H := Option.bind_eq_some_iff.mp H
                  obtain ⟨t165, A530, H⟩ := H
                  replace H : (if t165 = a1 then ((offertoryref09_Bin.f kj19 a0_0 a0_1 a0_2 l0_3 t151).bind fun t166 => (some (t166 == a1))) else (none)) = some r := H
                  have A53 := Aside0.mk A530
                  clear A530
                  by_cases c54 : t165 = a1
                  ·
                   rw [if_pos c54] at H
                   have c54b0 : (t165 == a1) = true := beq_iff_eq.mpr c54
                   have c54b1 : (t165 != a1) = false := bne_eq_false_iff_eq.mpr c54
                   clear c54
                   replace H := Option.bind_eq_some_iff.mp H
                   obtain ⟨t166, A550, H⟩ := H
                   replace H : (some (t166 == a1)) = some r := H
                   have A55 := Aside0.mk A550
                   clear A550
                   obtain rfl := Option.some.inj H
                   have hcz56_0 : wc.cell? ⟨gb149, 0, none⟩ = some (.int .i64 a0_0) := (blk_cell BK149.out 0).trans rfl
                   have hcz56_1 : wc.cell? ⟨gb149, 1, none⟩ = some (.int .i64 a0_1) := (blk_cell BK149.out 1).trans rfl
                   have hcz56_2 : wc.cell? ⟨gb149, 2, none⟩ = some (.int .i64 a0_2) := (blk_cell BK149.out 2).trans rfl
                   have hcz56_3 : wc.cell? ⟨gb149, 3, none⟩ = some (.slice A0_3 l0_3.length c0_3) := (blk_cell BK149.out 3).trans rfl
                   have hfz56_0 := blk_frozen BK149.out 0
                   have hfz56_1 := blk_frozen BK149.out 1
                   have hfz56_2 := blk_frozen BK149.out 2
                   have hfz56_3 := blk_frozen BK149.out 3
                   go_wp2_with (first | (go_at_call 9; (with_reducible refine (offertoryref09_Bin.calls kj19 a0_0 a0_1 a0_2 _ _ l0_3 a2 t161 _ ?side1 ?side2 A34.out).mono ?_); (case side1 => repeat (first | exact (Kd.C_below HR0_3.out HB.out) | (with_reducible refine Kd.C_alloc ?_ _) | (with_reducible refine Kd.C_drewN ?_ _) | (with_reducible refine Kd.C_drew ?_))); (case side2 => exact HC0_3.out); rintro e w57 ⟨rfl, hb⟩; have n0_ := Aside0.mk (blk_below (g := gb149) (o := .cells #[.int .i64 a0_0, .int .i64 a0_1, .int .i64 a0_2, .slice A0_3 l0_3.length c0_3] 24 (0, 0)) (by (with_reducible repeat (first | refine blk_drewN ?_ _ | refine blk_drew ?_ | refine blk_alloc ?_ _)); exact BK149.out) hb); have n1_ := Aside0.mk (below_step (by repeat (first | (with_reducible first | exact HB.out | apply below_alloc | apply pw_below_drewN | apply below_drew1 | refine below_set ?_ GE149.out) | exact HB.out)) hb); clear BK149; clear HB; have BK149 := n0_; have HB := n1_; clear n0_ n1_; (try clear hb); (try clear hb2); (try clear hk); (try clear hi)) | ((with_reducible refine gate_callee (f := 8) rfl ?_); refine goesL_ (some 129) rfl rfl Try.func8 (by kernel_rfl) rfl #[] rfl (by (try simp only [List.map_toArray, List.map_cons, List.map_nil]); first | done | rfl | (simp only [List.length_drop, List.length_take]; rfl)) ?_; (with_reducible refine (offertorylaw28_awake.calls kj19  true _ A35.out).mono ?_); rintro e w58 ⟨rfl, hb⟩; refine ⟨_, rfl, ?_⟩; have n0_ := Aside0.mk (blk_below (g := gb149) (o := .cells #[.int .i64 a0_0, .int .i64 a0_1, .int .i64 a0_2, .slice A0_3 l0_3.length c0_3] 24 (0, 0)) (by (with_reducible repeat (first | refine blk_drewN ?_ _ | refine blk_drew ?_ | refine blk_alloc ?_ _)); exact BK149.out) hb); have n1_ := Aside0.mk (below_step (by repeat (first | (with_reducible first | exact HB.out | apply below_alloc | apply pw_below_drewN | apply below_drew1 | refine below_set ?_ GE149.out) | exact HB.out)) hb); clear BK149; clear HB; have BK149 := n0_; have HB := n1_; clear n0_ n1_; (try clear hb); (try clear hb2); (try clear hk); (try clear hi); have hcz59_0 : w58.cell? ⟨gb149, 0, none⟩ = some (.int .i64 a0_0) := (blk_cell BK149.out 0).trans rfl; have hcz59_1 : w58.cell? ⟨gb149, 1, none⟩ = some (.int .i64 a0_1) := (blk_cell BK149.out 1).trans rfl; have hcz59_2 : w58.cell? ⟨gb149, 2, none⟩ = some (.int .i64 a0_2) := (blk_cell BK149.out 2).trans rfl; have hcz59_3 : w58.cell? ⟨gb149, 3, none⟩ = some (.slice A0_3 l0_3.length c0_3) := (blk_cell BK149.out 3).trans rfl; have hfz59_0 := blk_frozen BK149.out 0; have hfz59_1 := blk_frozen BK149.out 1; have hfz59_2 := blk_frozen BK149.out 2; have hfz59_3 := blk_frozen BK149.out 3) | (go_at_call 9; (with_reducible refine (offertoryref09_Bin.calls kj19 a0_0 a0_1 a0_2 _ _ l0_3 t150 t165 _ ?side1 ?side2 A53.out).mono ?_); (case side1 => repeat (first | exact (Kd.C_below HR0_3.out HB.out) | (with_reducible refine Kd.C_alloc ?_ _) | (with_reducible refine Kd.C_drewN ?_ _) | (with_reducible refine Kd.C_drew ?_))); (case side2 => exact HC0_3.out); rintro e w60 ⟨rfl, hb⟩; have n0_ := Aside0.mk (blk_below (g := gb149) (o := .cells #[.int .i64 a0_0, .int .i64 a0_1, .int .i64 a0_2, .slice A0_3 l0_3.length c0_3] 24 (0, 0)) (by (with_reducible repeat (first | refine blk_drewN ?_ _ | refine blk_drew ?_ | refine blk_alloc ?_ _)); exact BK149.out) hb); have n1_ := Aside0.mk (below_step (by repeat (first | (with_reducible first | exact HB.out | apply below_alloc | apply pw_below_drewN | apply below_drew1 | refine below_set ?_ GE149.out) | exact HB.out)) hb); clear BK149; clear HB; have BK149 := n0_; have HB := n1_; clear n0_ n1_; (try clear hb); (try clear hb2); (try clear hk); (try clear hi); have hcz61_0 : w60.cell? ⟨gb149, 0, none⟩ = some (.int .i64 a0_0) := (blk_cell BK149.out 0).trans rfl; have hcz61_1 : w60.cell? ⟨gb149, 1, none⟩ = some (.int .i64 a0_1) := (blk_cell BK149.out 1).trans rfl; have hcz61_2 : w60.cell? ⟨gb149, 2, none⟩ = some (.int .i64 a0_2) := (blk_cell BK149.out 2).trans rfl; have hcz61_3 : w60.cell? ⟨gb149, 3, none⟩ = some (.slice A0_3 l0_3.length c0_3) := (blk_cell BK149.out 3).trans rfl; have hfz61_0 := blk_frozen BK149.out 0; have hfz61_1 := blk_frozen BK149.out 1; have hfz61_2 := blk_frozen BK149.out 2; have hfz61_3 := blk_frozen BK149.out 3) | (go_at_call 9; (with_reducible refine (offertoryref09_Bin.calls kj19 a0_0 a0_1 a0_2 _ _ l0_3 t151 t166 _ ?side1 ?side2 A55.out).mono ?_); (case side1 => repeat (first | exact (Kd.C_below HR0_3.out HB.out) | (with_reducible refine Kd.C_alloc ?_ _) | (with_reducible refine Kd.C_drewN ?_ _) | (with_reducible refine Kd.C_drew ?_))); (case side2 => exact HC0_3.out); rintro e w62 ⟨rfl, hb⟩; have n0_ := Aside0.mk (blk_below (g := gb149) (o := .cells #[.int .i64 a0_0, .int .i64 a0_1, .int .i64 a0_2, .slice A0_3 l0_3.length c0_3] 24 (0, 0)) (by (with_reducible repeat (first | refine blk_drewN ?_ _ | refine blk_drew ?_ | refine blk_alloc ?_ _)); exact BK149.out) hb); have n1_ := Aside0.mk (below_step (by repeat (first | (with_reducible first | exact HB.out | apply below_alloc | apply pw_below_drewN | apply below_drew1 | refine below_set ?_ GE149.out) | exact HB.out)) hb); clear BK149; clear HB; have BK149 := n0_; have HB := n1_; clear n0_ n1_; (try clear hb); (try clear hb2); (try clear hk); (try clear hi)))
                   go_ret
                   exact ⟨by first | rfl | (simp [errW_none, errW_some] <;> rfl) | (simp [*, errW_none, errW_some] <;> rfl), by repeat (first | (with_reducible first | exact HB.out | apply below_alloc | apply pw_below_drewN | apply below_drew1 | refine below_set ?_ GE149.out) | exact HB.out)⟩
                  ·
                   rw [if_neg c54] at H
                   exact absurd H (by simp)
                 ·
                  rw [if_neg c52] at H
                  exact absurd H (by simp)
               ·
                rw [if_neg c39] at H
                exact absurd H (by simp)
              ·
               rw [if_neg c38] at H
               exact absurd H (by simp)
             ·
              rw [if_neg c37] at H
              exact absurd H (by simp)
            ·
             replace c36 := Bool.eq_false_iff.mpr c36
             subst c36
             have H1 : (none) = some r := by rw [if_neg (show ¬ (false = true) by decide)] at H; exact H
             clear H
             have H := H1
             clear H1
             exact absurd H (by simp)
           ·
            rw [if_neg c33] at H
            have c33b0 : decide (a2 ≤ a0_1) = false := decide_eq_false c33
            clear c33
            replace H := Option.bind_eq_some_iff.mp H
            obtain ⟨t167, A630, H⟩ := H
            replace H : (if t167 = true then (if t150 ≥ a0_0 then (if t151 ≤ a0_1 then (if t150 ≤ t151 then (if a2 ≥ t150 then (if (false == (decide (a2 ≤ t151))) = true then ((offertoryref09_Bin.f kj19 a0_0 a0_1 a0_2 l0_3 t150).bind fun t168 => (if t168 = a1 then ((offertoryref09_Bin.f kj19 a0_0 a0_1 a0_2 l0_3 t151).bind fun t169 => (some (t169 == a1))) else (none))) else (none)) else (if (false == false) = true then ((offertoryref09_Bin.f kj19 a0_0 a0_1 a0_2 l0_3 t150).bind fun t170 => (if t170 = a1 then ((offertoryref09_Bin.f kj19 a0_0 a0_1 a0_2 l0_3 t151).bind fun t171 => (some (t171 == a1))) else (none))) else (none))) else (none)) else (none)) else (none)) else (none)) = some r := H
            have A63 := Aside0.mk A630
            clear A630
            by_cases c64 : t167 = true
            ·
             subst c64
             have H1 : (if t150 ≥ a0_0 then (if t151 ≤ a0_1 then (if t150 ≤ t151 then (if a2 ≥ t150 then (if (false == (decide (a2 ≤ t151))) = true then ((offertoryref09_Bin.f kj19 a0_0 a0_1 a0_2 l0_3 t150).bind fun t168 => (if t168 = a1 then ((offertoryref09_Bin.f kj19 a0_0 a0_1 a0_2 l0_3 t151).bind fun t169 => (some (t169 == a1))) else (none))) else (none)) else (if (false == false) = true then ((offertoryref09_Bin.f kj19 a0_0 a0_1 a0_2 l0_3 t150).bind fun t170 => (if t170 = a1 then ((offertoryref09_Bin.f kj19 a0_0 a0_1 a0_2 l0_3 t151).bind fun t171 => (some (t171 == a1))) else (none))) else (none))) else (none)) else (none)) else (none)) = some r := by rw [if_pos rfl] at H; exact H
             clear H
             have H := H1
             clear H1
             by_cases c65 : t150 ≥ a0_0
             ·
              rw [if_pos c65] at H
              have c65b0 : decide (a0_0 ≤ t150) = true := decide_eq_true c65
              clear c65
              by_cases c66 : t151 ≤ a0_1
              ·
               rw [if_pos c66] at H
               have c66b0 : decide (t151 ≤ a0_1) = true := decide_eq_true c66
               clear c66
               by_cases c67 : t150 ≤ t151
               ·
                rw [if_pos c67] at H
                have c67b0 : decide (t150 ≤ t151) = true := decide_eq_true c67
                clear c67
                by_cases c68 : a2 ≥ t150
                ·
                 rw [if_pos c68] at H
                 have c68b0 : decide (t150 ≤ a2) = true := decide_eq_true c68
                 clear c68
                 by_cases c69 : (false == (decide (a2 ≤ t151))) = true
                 ·
                  rw [if_pos c69] at H
                  have c69b0 : (false == (decide (a2 ≤ t151))) = true := c69
                  (try (have c69b1 : decide (false = (decide (a2 ≤ t151))) = true := by first | decide | simpa using c69))
                  (try (have c69b2 : (false == (decide (a2 ≤ t151))) = true := by first | decide | simpa using c69))
                  clear c69
                  replace H := Option.bind_eq_some_iff.mp H
                  obtain ⟨t168, A700, H⟩ := H
                  replace H : (if t168 = a1 then ((offertoryref09_Bin.f kj19 a0_0 a0_1 a0_2 l0_3 t151).bind fun t169 => (some (t169 == a1))) else (none)) = some r := H
                  have A70 := Aside0.mk A700
                  clear A700
                  by_cases c71 : t168 = a1
                  ·
                   rw [if_pos c71] at H
                   have c71b0 : (t168 == a1) = true := beq_iff_eq.mpr c71
                   have c71b1 : (t168 != a1) = false := bne_eq_false_iff_eq.mpr c71
                   clear c71
                   replace H := Option.bind_eq_some_iff.mp H
                   obtain ⟨t169, A720, H⟩ := H
                   replace H : (some (t169 == a1)) = some r := H
                   have A72 := Aside0.mk A720
                   clear A720
                   obtain rfl := Option.some.inj H
                   have hcz73_0 : wc.cell? ⟨gb149, 0, none⟩ = some (.int .i64 a0_0) := (blk_cell BK149.out 0).trans rfl
                   have hcz73_1 : wc.cell? ⟨gb149, 1, none⟩ = some (.int .i64 a0_1) := (blk_cell BK149.out 1).trans rfl
                   have hcz73_2 : wc.cell? ⟨gb149, 2, none⟩ = some (.int .i64 a0_2) := (blk_cell BK149.out 2).trans rfl
                   have hcz73_3 : wc.cell? ⟨gb149, 3, none⟩ = some (.slice A0_3 l0_3.length c0_3) := (blk_cell BK149.out 3).trans rfl
                   have hfz73_0 := blk_frozen BK149.out 0
                   have hfz73_1 := blk_frozen BK149.out 1
                   have hfz73_2 := blk_frozen BK149.out 2
                   have hfz73_3 := blk_frozen BK149.out 3
                   go_wp2_with (first | ((with_reducible refine gate_callee (f := 8) rfl ?_); refine goesL_ (some 129) rfl rfl Try.func8 (by kernel_rfl) rfl #[] rfl (by (try simp only [List.map_toArray, List.map_cons, List.map_nil]); first | done | rfl | (simp only [List.length_drop, List.length_take]; rfl)) ?_; (with_reducible refine (offertorylaw28_awake.calls kj19  true _ A63.out).mono ?_); rintro e w74 ⟨rfl, hb⟩; refine ⟨_, rfl, ?_⟩; have n0_ := Aside0.mk (blk_below (g := gb149) (o := .cells #[.int .i64 a0_0, .int .i64 a0_1, .int .i64 a0_2, .slice A0_3 l0_3.length c0_3] 24 (0, 0)) (by (with_reducible repeat (first | refine blk_drewN ?_ _ | refine blk_drew ?_ | refine blk_alloc ?_ _)); exact BK149.out) hb); have n1_ := Aside0.mk (below_step (by repeat (first | (with_reducible first | exact HB.out | apply below_alloc | apply pw_below_drewN | apply below_drew1 | refine below_set ?_ GE149.out) | exact HB.out)) hb); clear BK149; clear HB; have BK149 := n0_; have HB := n1_; clear n0_ n1_; (try clear hb); (try clear hb2); (try clear hk); (try clear hi); have hcz75_0 : w74.cell? ⟨gb149, 0, none⟩ = some (.int .i64 a0_0) := (blk_cell BK149.out 0).trans rfl; have hcz75_1 : w74.cell? ⟨gb149, 1, none⟩ = some (.int .i64 a0_1) := (blk_cell BK149.out 1).trans rfl; have hcz75_2 : w74.cell? ⟨gb149, 2, none⟩ = some (.int .i64 a0_2) := (blk_cell BK149.out 2).trans rfl; have hcz75_3 : w74.cell? ⟨gb149, 3, none⟩ = some (.slice A0_3 l0_3.length c0_3) := (blk_cell BK149.out 3).trans rfl; have hfz75_0 := blk_frozen BK149.out 0; have hfz75_1 := blk_frozen BK149.out 1; have hfz75_2 := blk_frozen BK149.out 2; have hfz75_3 := blk_frozen BK149.out 3) | (go_at_call 9; (with_reducible refine (offertoryref09_Bin.calls kj19 a0_0 a0_1 a0_2 _ _ l0_3 t150 t168 _ ?side1 ?side2 A70.out).mono ?_); (case side1 => repeat (first | exact (Kd.C_below HR0_3.out HB.out) | (with_reducible refine Kd.C_alloc ?_ _) | (with_reducible refine Kd.C_drewN ?_ _) | (with_reducible refine Kd.C_drew ?_))); (case side2 => exact HC0_3.out); rintro e w76 ⟨rfl, hb⟩; have n0_ := Aside0.mk (blk_below (g := gb149) (o := .cells #[.int .i64 a0_0, .int .i64 a0_1, .int .i64 a0_2, .slice A0_3 l0_3.length c0_3] 24 (0, 0)) (by (with_reducible repeat (first | refine blk_drewN ?_ _ | refine blk_drew ?_ | refine blk_alloc ?_ _)); exact BK149.out) hb); have n1_ := Aside0.mk (below_step (by repeat (first | (with_reducible first | exact HB.out | apply below_alloc | apply pw_below_drewN | apply below_drew1 | refine below_set ?_ GE149.out) | exact HB.out)) hb); clear BK149; clear HB; have BK149 := n0_; have HB := n1_; clear n0_ n1_; (try clear hb); (try clear hb2); (try clear hk); (try clear hi); have hcz77_0 : w76.cell? ⟨gb149, 0, none⟩ = some (.int .i64 a0_0) := (blk_cell BK149.out 0).trans rfl; have hcz77_1 : w76.cell? ⟨gb149, 1, none⟩ = some (.int .i64 a0_1) := (blk_cell BK149.out 1).trans rfl; have hcz77_2 : w76.cell? ⟨gb149, 2, none⟩ = some (.int .i64 a0_2) := (blk_cell BK149.out 2).trans rfl; have hcz77_3 : w76.cell? ⟨gb149, 3, none⟩ = some (.slice A0_3 l0_3.length c0_3) := (blk_cell BK149.out 3).trans rfl; have hfz77_0 := blk_frozen BK149.out 0; have hfz77_1 := blk_frozen BK149.out 1; have hfz77_2 := blk_frozen BK149.out 2; have hfz77_3 := blk_frozen BK149.out 3) | (go_at_call 9; (with_reducible refine (offertoryref09_Bin.calls kj19 a0_0 a0_1 a0_2 _ _ l0_3 t151 t169 _ ?side1 ?side2 A72.out).mono ?_); (case side1 => repeat (first | exact (Kd.C_below HR0_3.out HB.out) | (with_reducible refine Kd.C_alloc ?_ _) | (with_reducible refine Kd.C_drewN ?_ _) | (with_reducible refine Kd.C_drew ?_))); (case side2 => exact HC0_3.out); rintro e w78 ⟨rfl, hb⟩; have n0_ := Aside0.mk (blk_below (g := gb149) (o := .cells #[.int .i64 a0_0, .int .i64 a0_1, .int .i64 a0_2, .slice A0_3 l0_3.length c0_3] 24 (0, 0)) (by (with_reducible repeat (first | refine blk_drewN ?_ _ | refine blk_drew ?_ | refine blk_alloc ?_ _)); exact BK149.out) hb); have n1_ := Aside0.mk (below_step (by repeat (first | (with_reducible first | exact HB.out | apply below_alloc | apply pw_below_drewN | apply below_drew1 | refine below_set ?_ GE149.out) | exact HB.out)) hb); clear BK149; clear HB; have BK149 := n0_; have HB := n1_; clear n0_ n1_; (try clear hb); (try clear hb2); (try clear hk); (try clear hi)))
                   go_ret
                   exact ⟨by first | rfl | (simp [errW_none, errW_some] <;> rfl) | (simp [*, errW_none, errW_some] <;> rfl), by repeat (first | (with_reducible first | exact HB.out | apply below_alloc | apply pw_below_drewN | apply below_drew1 | refine below_set ?_ GE149.out) | exact HB.out)⟩
                  ·
                   rw [if_neg c71] at H
                   exact absurd H (by simp)
                 ·
                  rw [if_neg c69] at H
                  exact absurd H (by simp)
                ·
                 rw [if_neg c68] at H
                 have c68b0 : decide (t150 ≤ a2) = false := decide_eq_false c68
                 clear c68
                 by_cases c79 : (false == false) = true
                 ·
                  rw [if_pos c79] at H
                  have c79b0 : (false == false) = true := c79
                  (try (have c79b1 : decide (false = false) = true := by first | decide | simpa using c79))
                  (try (have c79b2 : (false == false) = true := by first | decide | simpa using c79))
                  clear c79
                  replace H := Option.bind_eq_some_iff.mp H
                  obtain ⟨t170, A800, H⟩ := H
                  replace H : (if t170 = a1 then ((offertoryref09_Bin.f kj19 a0_0 a0_1 a0_2 l0_3 t151).bind fun t171 => (some (t171 == a1))) else (none)) = some r := H
                  have A80 := Aside0.mk A800
                  clear A800
                  by_cases c81 : t170 = a1
                  ·
                   rw [if_pos c81] at H
                   have c81b0 : (t170 == a1) = true := beq_iff_eq.mpr c81
                   have c81b1 : (t170 != a1) = false := bne_eq_false_iff_eq.mpr c81
                   clear c81
                   replace H := Option.bind_eq_some_iff.mp H
                   obtain ⟨t171, A820, H⟩ := H
                   replace H : (some (t171 == a1)) = some r := H
                   have A82 := Aside0.mk A820
                   clear A820
                   obtain rfl := Option.some.inj H
                   have hcz83_0 : wc.cell? ⟨gb149, 0, none⟩ = some (.int .i64 a0_0) := (blk_cell BK149.out 0).trans rfl
                   have hcz83_1 : wc.cell? ⟨gb149, 1, none⟩ = some (.int .i64 a0_1) := (blk_cell BK149.out 1).trans rfl
                   have hcz83_2 : wc.cell? ⟨gb149, 2, none⟩ = some (.int .i64 a0_2) := (blk_cell BK149.out 2).trans rfl
                   have hcz83_3 : wc.cell? ⟨gb149, 3, none⟩ = some (.slice A0_3 l0_3.length c0_3) := (blk_cell BK149.out 3).trans rfl
                   have hfz83_0 := blk_frozen BK149.out 0
                   have hfz83_1 := blk_frozen BK149.out 1
                   have hfz83_2 := blk_frozen BK149.out 2
                   have hfz83_3 := blk_frozen BK149.out 3
                   go_wp2_with (first | ((with_reducible refine gate_callee (f := 8) rfl ?_); refine goesL_ (some 129) rfl rfl Try.func8 (by kernel_rfl) rfl #[] rfl (by (try simp only [List.map_toArray, List.map_cons, List.map_nil]); first | done | rfl | (simp only [List.length_drop, List.length_take]; rfl)) ?_; (with_reducible refine (offertorylaw28_awake.calls kj19  true _ A63.out).mono ?_); rintro e w84 ⟨rfl, hb⟩; refine ⟨_, rfl, ?_⟩; have n0_ := Aside0.mk (blk_below (g := gb149) (o := .cells #[.int .i64 a0_0, .int .i64 a0_1, .int .i64 a0_2, .slice A0_3 l0_3.length c0_3] 24 (0, 0)) (by (with_reducible repeat (first | refine blk_drewN ?_ _ | refine blk_drew ?_ | refine blk_alloc ?_ _)); exact BK149.out) hb); have n1_ := Aside0.mk (below_step (by repeat (first | (with_reducible first | exact HB.out | apply below_alloc | apply pw_below_drewN | apply below_drew1 | refine below_set ?_ GE149.out) | exact HB.out)) hb); clear BK149; clear HB; have BK149 := n0_; have HB := n1_; clear n0_ n1_; (try clear hb); (try clear hb2); (try clear hk); (try clear hi); have hcz85_0 : w84.cell? ⟨gb149, 0, none⟩ = some (.int .i64 a0_0) := (blk_cell BK149.out 0).trans rfl; have hcz85_1 : w84.cell? ⟨gb149, 1, none⟩ = some (.int .i64 a0_1) := (blk_cell BK149.out 1).trans rfl; have hcz85_2 : w84.cell? ⟨gb149, 2, none⟩ = some (.int .i64 a0_2) := (blk_cell BK149.out 2).trans rfl; have hcz85_3 : w84.cell? ⟨gb149, 3, none⟩ = some (.slice A0_3 l0_3.length c0_3) := (blk_cell BK149.out 3).trans rfl; have hfz85_0 := blk_frozen BK149.out 0; have hfz85_1 := blk_frozen BK149.out 1; have hfz85_2 := blk_frozen BK149.out 2; have hfz85_3 := blk_frozen BK149.out 3) | (go_at_call 9; (with_reducible refine (offertoryref09_Bin.calls kj19 a0_0 a0_1 a0_2 _ _ l0_3 t150 t170 _ ?side1 ?side2 A80.out).mono ?_); (case side1 => repeat (first | exact (Kd.C_below HR0_3.out HB.out) | (with_reducible refine Kd.C_alloc ?_ _) | (with_reducible refine Kd.C_drewN ?_ _) | (with_reducible refine Kd.C_drew ?_))); (case side2 => exact HC0_3.out); rintro e w86 ⟨rfl, hb⟩; have n0_ := Aside0.mk (blk_below (g := gb149) (o := .cells #[.int .i64 a0_0, .int .i64 a0_1, .int .i64 a0_2, .slice A0_3 l0_3.length c0_3] 24 (0, 0)) (by (with_reducible repeat (first | refine blk_drewN ?_ _ | refine blk_drew ?_ | refine blk_alloc ?_ _)); exact BK149.out) hb); have n1_ := Aside0.mk (below_step (by repeat (first | (with_reducible first | exact HB.out | apply below_alloc | apply pw_below_drewN | apply below_drew1 | refine below_set ?_ GE149.out) | exact HB.out)) hb); clear BK149; clear HB; have BK149 := n0_; have HB := n1_; clear n0_ n1_; (try clear hb); (try clear hb2); (try clear hk); (try clear hi); have hcz87_0 : w86.cell? ⟨gb149, 0, none⟩ = some (.int .i64 a0_0) := (blk_cell BK149.out 0).trans rfl; have hcz87_1 : w86.cell? ⟨gb149, 1, none⟩ = some (.int .i64 a0_1) := (blk_cell BK149.out 1).trans rfl; have hcz87_2 : w86.cell? ⟨gb149, 2, none⟩ = some (.int .i64 a0_2) := (blk_cell BK149.out 2).trans rfl; have hcz87_3 : w86.cell? ⟨gb149, 3, none⟩ = some (.slice A0_3 l0_3.length c0_3) := (blk_cell BK149.out 3).trans rfl; have hfz87_0 := blk_frozen BK149.out 0; have hfz87_1 := blk_frozen BK149.out 1; have hfz87_2 := blk_frozen BK149.out 2; have hfz87_3 := blk_frozen BK149.out 3) | (go_at_call 9; (with_reducible refine (offertoryref09_Bin.calls kj19 a0_0 a0_1 a0_2 _ _ l0_3 t151 t171 _ ?side1 ?side2 A82.out).mono ?_); (case side1 => repeat (first | exact (Kd.C_below HR0_3.out HB.out) | (with_reducible refine Kd.C_alloc ?_ _) | (with_reducible refine Kd.C_drewN ?_ _) | (with_reducible refine Kd.C_drew ?_))); (case side2 => exact HC0_3.out); rintro e w88 ⟨rfl, hb⟩; have n0_ := Aside0.mk (blk_below (g := gb149) (o := .cells #[.int .i64 a0_0, .int .i64 a0_1, .int .i64 a0_2, .slice A0_3 l0_3.length c0_3] 24 (0, 0)) (by (with_reducible repeat (first | refine blk_drewN ?_ _ | refine blk_drew ?_ | refine blk_alloc ?_ _)); exact BK149.out) hb); have n1_ := Aside0.mk (below_step (by repeat (first | (with_reducible first | exact HB.out | apply below_alloc | apply pw_below_drewN | apply below_drew1 | refine below_set ?_ GE149.out) | exact HB.out)) hb); clear BK149; clear HB; have BK149 := n0_; have HB := n1_; clear n0_ n1_; (try clear hb); (try clear hb2); (try clear hk); (try clear hi)))
                   go_ret
                   exact ⟨by first | rfl | (simp [errW_none, errW_some] <;> rfl) | (simp [*, errW_none, errW_some] <;> rfl), by repeat (first | (with_reducible first | exact HB.out | apply below_alloc | apply pw_below_drewN | apply below_drew1 | refine below_set ?_ GE149.out) | exact HB.out)⟩
                  ·
                   rw [if_neg c81] at H
                   exact absurd H (by simp)
                 ·
                  rw [if_neg c79] at H
                  exact absurd H (by simp)
               ·
                rw [if_neg c67] at H
                exact absurd H (by simp)
              ·
               rw [if_neg c66] at H
               exact absurd H (by simp)
             ·
              rw [if_neg c65] at H
              exact absurd H (by simp)
            ·
             replace c64 := Bool.eq_false_iff.mpr c64
             subst c64
             have H1 : (none) = some r := by rw [if_neg (show ¬ (false = true) by decide)] at H; exact H
             clear H
             have H := H1
             clear H1
             exact absurd H (by simp)
          ·
           rw [if_neg c32] at H
           have c32b0 : decide (a0_0 ≤ a2) = false := decide_eq_false c32
           clear c32
           replace H := Option.bind_eq_some_iff.mp H
           obtain ⟨t172, A890, H⟩ := H
           replace H : (if t172 = true then (if t150 ≥ a0_0 then (if t151 ≤ a0_1 then (if t150 ≤ t151 then (if a2 ≥ t150 then (if (false == (decide (a2 ≤ t151))) = true then ((offertoryref09_Bin.f kj19 a0_0 a0_1 a0_2 l0_3 t150).bind fun t173 => (if t173 = a1 then ((offertoryref09_Bin.f kj19 a0_0 a0_1 a0_2 l0_3 t151).bind fun t174 => (some (t174 == a1))) else (none))) else (none)) else (if (false == false) = true then ((offertoryref09_Bin.f kj19 a0_0 a0_1 a0_2 l0_3 t150).bind fun t175 => (if t175 = a1 then ((offertoryref09_Bin.f kj19 a0_0 a0_1 a0_2 l0_3 t151).bind fun t176 => (some (t176 == a1))) else (none))) else (none))) else (none)) else (none)) else (none)) else (none)) = some r := H
           have A89 := Aside0.mk A890
           clear A890
           by_cases c90 : t172 = true
           ·
            subst c90
            have H1 : (if t150 ≥ a0_0 then (if t151 ≤ a0_1 then (if t150 ≤ t151 then (if a2 ≥ t150 then (if (false == (decide (a2 ≤ t151))) = true then ((offertoryref09_Bin.f kj19 a0_0 a0_1 a0_2 l0_3 t150).bind fun t173 => (if t173 = a1 then ((offertoryref09_Bin.f kj19 a0_0 a0_1 a0_2 l0_3 t151).bind fun t174 => (some (t174 == a1))) else (none))) else (none)) else (if (false == false) = true then ((offertoryref09_Bin.f kj19 a0_0 a0_1 a0_2 l0_3 t150).bind fun t175 => (if t175 = a1 then ((offertoryref09_Bin.f kj19 a0_0 a0_1 a0_2 l0_3 t151).bind fun t176 => (some (t176 == a1))) else (none))) else (none))) else (none)) else (none)) else (none)) = some r := by rw [if_pos rfl] at H; exact H
            clear H
            have H := H1
            clear H1
            by_cases c91 : t150 ≥ a0_0
            ·
             rw [if_pos c91] at H
             have c91b0 : decide (a0_0 ≤ t150) = true := decide_eq_true c91
             clear c91
             by_cases c92 : t151 ≤ a0_1
             ·
              rw [if_pos c92] at H
              have c92b0 : decide (t151 ≤ a0_1) = true := decide_eq_true c92
              clear c92
              by_cases c93 : t150 ≤ t151
              ·
               rw [if_pos c93] at H
               have c93b0 : decide (t150 ≤ t151) = true := decide_eq_true c93
               clear c93
               by_cases c94 : a2 ≥ t150
               ·
                rw [if_pos c94] at H
                have c94b0 : decide (t150 ≤ a2) = true := decide_eq_true c94
                clear c94
                by_cases c95 : (false == (decide (a2 ≤ t151))) = true
                ·
                 rw [if_pos c95] at H
                 have c95b0 : (false == (decide (a2 ≤ t151))) = true := c95
                 (try (have c95b1 : decide (false = (decide (a2 ≤ t151))) = true := by first | decide | simpa using c95))
                 (try (have c95b2 : (false == (decide (a2 ≤ t151))) = true := by first | decide | simpa using c95))
                 clear c95
                 replace H := Option.bind_eq_some_iff.mp H
                 obtain ⟨t173, A960, H⟩ := H
                 replace H : (if t173 = a1 then ((offertoryref09_Bin.f kj19 a0_0 a0_1 a0_2 l0_3 t151).bind fun t174 => (some (t174 == a1))) else (none)) = some r := H
                 have A96 := Aside0.mk A960
                 clear A960
                 by_cases c97 : t173 = a1
                 ·
                  rw [if_pos c97] at H
                  have c97b0 : (t173 == a1) = true := beq_iff_eq.mpr c97
                  have c97b1 : (t173 != a1) = false := bne_eq_false_iff_eq.mpr c97
                  clear c97
                  replace H := Option.bind_eq_some_iff.mp H
                  obtain ⟨t174, A980, H⟩ := H
                  replace H : (some (t174 == a1)) = some r := H
                  have A98 := Aside0.mk A980
                  clear A980
                  obtain rfl := Option.some.inj H
                  have hcz99_0 : wc.cell? ⟨gb149, 0, none⟩ = some (.int .i64 a0_0) := (blk_cell BK149.out 0).trans rfl
                  have hcz99_1 : wc.cell? ⟨gb149, 1, none⟩ = some (.int .i64 a0_1) := (blk_cell BK149.out 1).trans rfl
                  have hcz99_2 : wc.cell? ⟨gb149, 2, none⟩ = some (.int .i64 a0_2) := (blk_cell BK149.out 2).trans rfl
                  have hcz99_3 : wc.cell? ⟨gb149, 3, none⟩ = some (.slice A0_3 l0_3.length c0_3) := (blk_cell BK149.out 3).trans rfl
                  have hfz99_0 := blk_frozen BK149.out 0
                  have hfz99_1 := blk_frozen BK149.out 1
                  have hfz99_2 := blk_frozen BK149.out 2
                  have hfz99_3 := blk_frozen BK149.out 3
                  go_wp2_with (first | ((with_reducible refine gate_callee (f := 8) rfl ?_); refine goesL_ (some 129) rfl rfl Try.func8 (by kernel_rfl) rfl #[] rfl (by (try simp only [List.map_toArray, List.map_cons, List.map_nil]); first | done | rfl | (simp only [List.length_drop, List.length_take]; rfl)) ?_; (with_reducible refine (offertorylaw28_awake.calls kj19  true _ A89.out).mono ?_); rintro e w100 ⟨rfl, hb⟩; refine ⟨_, rfl, ?_⟩; have n0_ := Aside0.mk (blk_below (g := gb149) (o := .cells #[.int .i64 a0_0, .int .i64 a0_1, .int .i64 a0_2, .slice A0_3 l0_3.length c0_3] 24 (0, 0)) (by (with_reducible repeat (first | refine blk_drewN ?_ _ | refine blk_drew ?_ | refine blk_alloc ?_ _)); exact BK149.out) hb); have n1_ := Aside0.mk (below_step (by repeat (first | (with_reducible first | exact HB.out | apply below_alloc | apply pw_below_drewN | apply below_drew1 | refine below_set ?_ GE149.out) | exact HB.out)) hb); clear BK149; clear HB; have BK149 := n0_; have HB := n1_; clear n0_ n1_; (try clear hb); (try clear hb2); (try clear hk); (try clear hi); have hcz101_0 : w100.cell? ⟨gb149, 0, none⟩ = some (.int .i64 a0_0) := (blk_cell BK149.out 0).trans rfl; have hcz101_1 : w100.cell? ⟨gb149, 1, none⟩ = some (.int .i64 a0_1) := (blk_cell BK149.out 1).trans rfl; have hcz101_2 : w100.cell? ⟨gb149, 2, none⟩ = some (.int .i64 a0_2) := (blk_cell BK149.out 2).trans rfl; have hcz101_3 : w100.cell? ⟨gb149, 3, none⟩ = some (.slice A0_3 l0_3.length c0_3) := (blk_cell BK149.out 3).trans rfl; have hfz101_0 := blk_frozen BK149.out 0; have hfz101_1 := blk_frozen BK149.out 1; have hfz101_2 := blk_frozen BK149.out 2; have hfz101_3 := blk_frozen BK149.out 3) | (go_at_call 9; (with_reducible refine (offertoryref09_Bin.calls kj19 a0_0 a0_1 a0_2 _ _ l0_3 t150 t173 _ ?side1 ?side2 A96.out).mono ?_); (case side1 => repeat (first | exact (Kd.C_below HR0_3.out HB.out) | (with_reducible refine Kd.C_alloc ?_ _) | (with_reducible refine Kd.C_drewN ?_ _) | (with_reducible refine Kd.C_drew ?_))); (case side2 => exact HC0_3.out); rintro e w102 ⟨rfl, hb⟩; have n0_ := Aside0.mk (blk_below (g := gb149) (o := .cells #[.int .i64 a0_0, .int .i64 a0_1, .int .i64 a0_2, .slice A0_3 l0_3.length c0_3] 24 (0, 0)) (by (with_reducible repeat (first | refine blk_drewN ?_ _ | refine blk_drew ?_ | refine blk_alloc ?_ _)); exact BK149.out) hb); have n1_ := Aside0.mk (below_step (by repeat (first | (with_reducible first | exact HB.out | apply below_alloc | apply pw_below_drewN | apply below_drew1 | refine below_set ?_ GE149.out) | exact HB.out)) hb); clear BK149; clear HB; have BK149 := n0_; have HB := n1_; clear n0_ n1_; (try clear hb); (try clear hb2); (try clear hk); (try clear hi); have hcz103_0 : w102.cell? ⟨gb149, 0, none⟩ = some (.int .i64 a0_0) := (blk_cell BK149.out 0).trans rfl; have hcz103_1 : w102.cell? ⟨gb149, 1, none⟩ = some (.int .i64 a0_1) := (blk_cell BK149.out 1).trans rfl; have hcz103_2 : w102.cell? ⟨gb149, 2, none⟩ = some (.int .i64 a0_2) := (blk_cell BK149.out 2).trans rfl; have hcz103_3 : w102.cell? ⟨gb149, 3, none⟩ = some (.slice A0_3 l0_3.length c0_3) := (blk_cell BK149.out 3).trans rfl; have hfz103_0 := blk_frozen BK149.out 0; have hfz103_1 := blk_frozen BK149.out 1; have hfz103_2 := blk_frozen BK149.out 2; have hfz103_3 := blk_frozen BK149.out 3) | (go_at_call 9; (with_reducible refine (offertoryref09_Bin.calls kj19 a0_0 a0_1 a0_2 _ _ l0_3 t151 t174 _ ?side1 ?side2 A98.out).mono ?_); (case side1 => repeat (first | exact (Kd.C_below HR0_3.out HB.out) | (with_reducible refine Kd.C_alloc ?_ _) | (with_reducible refine Kd.C_drewN ?_ _) | (with_reducible refine Kd.C_drew ?_))); (case side2 => exact HC0_3.out); rintro e w104 ⟨rfl, hb⟩; have n0_ := Aside0.mk (blk_below (g := gb149) (o := .cells #[.int .i64 a0_0, .int .i64 a0_1, .int .i64 a0_2, .slice A0_3 l0_3.length c0_3] 24 (0, 0)) (by (with_reducible repeat (first | refine blk_drewN ?_ _ | refine blk_drew ?_ | refine blk_alloc ?_ _)); exact BK149.out) hb); have n1_ := Aside0.mk (below_step (by repeat (first | (with_reducible first | exact HB.out | apply below_alloc | apply pw_below_drewN | apply below_drew1 | refine below_set ?_ GE149.out) | exact HB.out)) hb); clear BK149; clear HB; have BK149 := n0_; have HB := n1_; clear n0_ n1_; (try clear hb); (try clear hb2); (try clear hk); (try clear hi)))
                  go_ret
                  exact ⟨by first | rfl | (simp [errW_none, errW_some] <;> rfl) | (simp [*, errW_none, errW_some] <;> rfl), by repeat (first | (with_reducible first | exact HB.out | apply below_alloc | apply pw_below_drewN | apply below_drew1 | refine below_set ?_ GE149.out) | exact HB.out)⟩
                 ·
                  rw [if_neg c97] at H
                  exact absurd H (by simp)
                ·
                 rw [if_neg c95] at H
                 exact absurd H (by simp)
               ·
                rw [if_neg c94] at H
                have c94b0 : decide (t150 ≤ a2) = false := decide_eq_false c94
                clear c94
                by_cases c105 : (false == false) = true
                ·
                 rw [if_pos c105] at H
                 have c105b0 : (false == false) = true := c105
                 (try (have c105b1 : decide (false = false) = true := by first | decide | simpa using c105))
                 (try (have c105b2 : (false == false) = true := by first | decide | simpa using c105))
                 clear c105
                 replace H := Option.bind_eq_some_iff.mp H
                 obtain ⟨t175, A1060, H⟩ := H
                 replace H : (if t175 = a1 then ((offertoryref09_Bin.f kj19 a0_0 a0_1 a0_2 l0_3 t151).bind fun t176 => (some (t176 == a1))) else (none)) = some r := H
                 have A106 := Aside0.mk A1060
                 clear A1060
                 by_cases c107 : t175 = a1
                 ·
                  rw [if_pos c107] at H
                  have c107b0 : (t175 == a1) = true := beq_iff_eq.mpr c107
                  have c107b1 : (t175 != a1) = false := bne_eq_false_iff_eq.mpr c107
                  clear c107
                  replace H := Option.bind_eq_some_iff.mp H
                  obtain ⟨t176, A1080, H⟩ := H
                  replace H : (some (t176 == a1)) = some r := H
                  have A108 := Aside0.mk A1080
                  clear A1080
                  obtain rfl := Option.some.inj H
                  have hcz109_0 : wc.cell? ⟨gb149, 0, none⟩ = some (.int .i64 a0_0) := (blk_cell BK149.out 0).trans rfl
                  have hcz109_1 : wc.cell? ⟨gb149, 1, none⟩ = some (.int .i64 a0_1) := (blk_cell BK149.out 1).trans rfl
                  have hcz109_2 : wc.cell? ⟨gb149, 2, none⟩ = some (.int .i64 a0_2) := (blk_cell BK149.out 2).trans rfl
                  have hcz109_3 : wc.cell? ⟨gb149, 3, none⟩ = some (.slice A0_3 l0_3.length c0_3) := (blk_cell BK149.out 3).trans rfl
                  have hfz109_0 := blk_frozen BK149.out 0
                  have hfz109_1 := blk_frozen BK149.out 1
                  have hfz109_2 := blk_frozen BK149.out 2
                  have hfz109_3 := blk_frozen BK149.out 3
                  go_wp2_with (first | ((with_reducible refine gate_callee (f := 8) rfl ?_); refine goesL_ (some 129) rfl rfl Try.func8 (by kernel_rfl) rfl #[] rfl (by (try simp only [List.map_toArray, List.map_cons, List.map_nil]); first | done | rfl | (simp only [List.length_drop, List.length_take]; rfl)) ?_; (with_reducible refine (offertorylaw28_awake.calls kj19  true _ A89.out).mono ?_); rintro e w110 ⟨rfl, hb⟩; refine ⟨_, rfl, ?_⟩; have n0_ := Aside0.mk (blk_below (g := gb149) (o := .cells #[.int .i64 a0_0, .int .i64 a0_1, .int .i64 a0_2, .slice A0_3 l0_3.length c0_3] 24 (0, 0)) (by (with_reducible repeat (first | refine blk_drewN ?_ _ | refine blk_drew ?_ | refine blk_alloc ?_ _)); exact BK149.out) hb); have n1_ := Aside0.mk (below_step (by repeat (first | (with_reducible first | exact HB.out | apply below_alloc | apply pw_below_drewN | apply below_drew1 | refine below_set ?_ GE149.out) | exact HB.out)) hb); clear BK149; clear HB; have BK149 := n0_; have HB := n1_; clear n0_ n1_; (try clear hb); (try clear hb2); (try clear hk); (try clear hi); have hcz111_0 : w110.cell? ⟨gb149, 0, none⟩ = some (.int .i64 a0_0) := (blk_cell BK149.out 0).trans rfl; have hcz111_1 : w110.cell? ⟨gb149, 1, none⟩ = some (.int .i64 a0_1) := (blk_cell BK149.out 1).trans rfl; have hcz111_2 : w110.cell? ⟨gb149, 2, none⟩ = some (.int .i64 a0_2) := (blk_cell BK149.out 2).trans rfl; have hcz111_3 : w110.cell? ⟨gb149, 3, none⟩ = some (.slice A0_3 l0_3.length c0_3) := (blk_cell BK149.out 3).trans rfl; have hfz111_0 := blk_frozen BK149.out 0; have hfz111_1 := blk_frozen BK149.out 1; have hfz111_2 := blk_frozen BK149.out 2; have hfz111_3 := blk_frozen BK149.out 3) | (go_at_call 9; (with_reducible refine (offertoryref09_Bin.calls kj19 a0_0 a0_1 a0_2 _ _ l0_3 t150 t175 _ ?side1 ?side2 A106.out).mono ?_); (case side1 => repeat (first | exact (Kd.C_below HR0_3.out HB.out) | (with_reducible refine Kd.C_alloc ?_ _) | (with_reducible refine Kd.C_drewN ?_ _) | (with_reducible refine Kd.C_drew ?_))); (case side2 => exact HC0_3.out); rintro e w112 ⟨rfl, hb⟩; have n0_ := Aside0.mk (blk_below (g := gb149) (o := .cells #[.int .i64 a0_0, .int .i64 a0_1, .int .i64 a0_2, .slice A0_3 l0_3.length c0_3] 24 (0, 0)) (by (with_reducible repeat (first | refine blk_drewN ?_ _ | refine blk_drew ?_ | refine blk_alloc ?_ _)); exact BK149.out) hb); have n1_ := Aside0.mk (below_step (by repeat (first | (with_reducible first | exact HB.out | apply below_alloc | apply pw_below_drewN | apply below_drew1 | refine below_set ?_ GE149.out) | exact HB.out)) hb); clear BK149; clear HB; have BK149 := n0_; have HB := n1_; clear n0_ n1_; (try clear hb); (try clear hb2); (try clear hk); (try clear hi); have hcz113_0 : w112.cell? ⟨gb149, 0, none⟩ = some (.int .i64 a0_0) := (blk_cell BK149.out 0).trans rfl; have hcz113_1 : w112.cell? ⟨gb149, 1, none⟩ = some (.int .i64 a0_1) := (blk_cell BK149.out 1).trans rfl; have hcz113_2 : w112.cell? ⟨gb149, 2, none⟩ = some (.int .i64 a0_2) := (blk_cell BK149.out 2).trans rfl; have hcz113_3 : w112.cell? ⟨gb149, 3, none⟩ = some (.slice A0_3 l0_3.length c0_3) := (blk_cell BK149.out 3).trans rfl; have hfz113_0 := blk_frozen BK149.out 0; have hfz113_1 := blk_frozen BK149.out 1; have hfz113_2 := blk_frozen BK149.out 2; have hfz113_3 := blk_frozen BK149.out 3) | (go_at_call 9; (with_reducible refine (offertoryref09_Bin.calls kj19 a0_0 a0_1 a0_2 _ _ l0_3 t151 t176 _ ?side1 ?side2 A108.out).mono ?_); (case side1 => repeat (first | exact (Kd.C_below HR0_3.out HB.out) | (with_reducible refine Kd.C_alloc ?_ _) | (with_reducible refine Kd.C_drewN ?_ _) | (with_reducible refine Kd.C_drew ?_))); (case side2 => exact HC0_3.out); rintro e w114 ⟨rfl, hb⟩; have n0_ := Aside0.mk (blk_below (g := gb149) (o := .cells #[.int .i64 a0_0, .int .i64 a0_1, .int .i64 a0_2, .slice A0_3 l0_3.length c0_3] 24 (0, 0)) (by (with_reducible repeat (first | refine blk_drewN ?_ _ | refine blk_drew ?_ | refine blk_alloc ?_ _)); exact BK149.out) hb); have n1_ := Aside0.mk (below_step (by repeat (first | (with_reducible first | exact HB.out | apply below_alloc | apply pw_below_drewN | apply below_drew1 | refine below_set ?_ GE149.out) | exact HB.out)) hb); clear BK149; clear HB; have BK149 := n0_; have HB := n1_; clear n0_ n1_; (try clear hb); (try clear hb2); (try clear hk); (try clear hi)))
                  go_ret
                  exact ⟨by first | rfl | (simp [errW_none, errW_some] <;> rfl) | (simp [*, errW_none, errW_some] <;> rfl), by repeat (first | (with_reducible first | exact HB.out | apply below_alloc | apply pw_below_drewN | apply below_drew1 | refine below_set ?_ GE149.out) | exact HB.out)⟩
                 ·
                  rw [if_neg c107] at H
                  exact absurd H (by simp)
                ·
                 rw [if_neg c105] at H
                 exact absurd H (by simp)
              ·
               rw [if_neg c93] at H
               exact absurd H (by simp)
             ·
              rw [if_neg c92] at H
              exact absurd H (by simp)
            ·
             rw [if_neg c91] at H
             exact absurd H (by simp)
           ·
            replace c90 := Bool.eq_false_iff.mpr c90
            subst c90
            have H1 : (none) = some r := by rw [if_neg (show ¬ (false = true) by decide)] at H; exact H
            clear H
            have H := H1
            clear H1
            exact absurd H (by simp)
         ·
          rw [if_neg c31] at H
          have c31b0 : (t152 == 0) = false := beq_eq_false_iff_ne.mpr c31
          have c31b1 : (t152 != 0) = true := bne_iff_ne.mpr c31
          replace H := Option.bind_eq_some_iff.mp H
          obtain ⟨t158, A1150, H⟩ := H
          replace H : (if t158 = true then (if t152 = 7 then (if a1 > t155 then (if a1 < t156 then (if 0 ≤ a1 then (if a1 < (l0_3.length : Int) then (if 0 ≤ (wrap64 (a1 - 1)) then (if (wrap64 (a1 - 1)) < (l0_3.length : Int) then (some (decide ((rd l0_3 a1) ≤ (rd l0_3 (wrap64 (a1 - 1)))))) else (none)) else (none)) else (none)) else (none)) else (none)) else (none)) else (none)) else (none)) = some r := H
          have A115 := Aside0.mk A1150
          clear A1150
          by_cases c116 : t158 = true
          ·
           subst c116
           have H1 : (if t152 = 7 then (if a1 > t155 then (if a1 < t156 then (if 0 ≤ a1 then (if a1 < (l0_3.length : Int) then (if 0 ≤ (wrap64 (a1 - 1)) then (if (wrap64 (a1 - 1)) < (l0_3.length : Int) then (some (decide ((rd l0_3 a1) ≤ (rd l0_3 (wrap64 (a1 - 1)))))) else (none)) else (none)) else (none)) else (none)) else (none)) else (none)) else (none)) = some r := by rw [if_pos rfl] at H; exact H
           clear H
           have H := H1
           clear H1
           by_cases c117 : t152 = 7
           ·
            rw [if_pos c117] at H
            have c117b0 : (t152 == 7) = true := beq_iff_eq.mpr c117
            have c117b1 : (t152 != 7) = false := bne_eq_false_iff_eq.mpr c117
            clear c117
            by_cases c118 : a1 > t155
            ·
             rw [if_pos c118] at H
             have c118b0 : decide (t155 < a1) = true := decide_eq_true c118
             clear c118
             by_cases c119 : a1 < t156
             ·
              rw [if_pos c119] at H
              have c119b0 : decide (a1 < t156) = true := decide_eq_true c119
              clear c119
              by_cases c120 : 0 ≤ a1
              ·
               rw [if_pos c120] at H
               have c120b0 : decide (0 ≤ a1) = true := decide_eq_true c120
               clear c120
               by_cases c121 : a1 < (l0_3.length : Int)
               ·
                rw [if_pos c121] at H
                have c121b0 : decide (a1 < (l0_3.length : Int)) = true := decide_eq_true c121
                clear c121
                obtain ⟨ji122, hji122⟩ : ∃ j_ : Int, (wrap64 (a1 - 1)) = j_ := ⟨_, rfl⟩
                replace H : (if 0 ≤ (ji122) then (if (ji122) < (l0_3.length : Int) then (some (decide ((rd l0_3 a1) ≤ (rd l0_3 (ji122))))) else (none)) else (none)) = some r := by first | (rw [hji122] at H; exact H) | (simp only [hji122] at H ⊢; exact H)
                (try rw [hji122] at A115)
                have hji122w : (IntKind.i64.wrap (a1 - 1)) = ji122 := (i64_w _).trans hji122
                by_cases c123 : 0 ≤ (ji122)
                ·
                 rw [if_pos c123] at H
                 have c123b0 : decide (0 ≤ (ji122)) = true := decide_eq_true c123
                 clear c123
                 by_cases c124 : (ji122) < (l0_3.length : Int)
                 ·
                  rw [if_pos c124] at H
                  have c124b0 : decide ((ji122) < (l0_3.length : Int)) = true := decide_eq_true c124
                  clear c124
                  obtain rfl := Option.some.inj H
                  try go_wp2
                  have n0_ := Aside0.mk (blk_drew BK149.out)
                  have n1_ := Aside0.mk (below_drew1 HB.out)
                  clear BK149
                  clear HB
                  have BK149 := n0_
                  have HB := n1_
                  clear n0_ n1_
                  have p159 : 0 ≤ (a1 : Int) := of_decide_eq_true (by first | (with_reducible assumption) | assumption)
                  have q159 : a1 < (l0_3.length : Int) := of_decide_eq_true (by first | (with_reducible assumption) | assumption)
                  obtain ⟨ad159, e159, hx159_0⟩ := Kd.at_int HR0_3.out a1 p159 q159
                  have hw159_0 := hx159_0
                  cases e159
                  replace hx159_0 := (HB.out.cell (World.block_lt_of_cell? w _ hx159_0)).trans hx159_0
                  replace p159 := eq_true p159
                  replace q159 := eq_true q159
                  have p160 : 0 ≤ ((ji122) : Int) := of_decide_eq_true (by first | (with_reducible assumption) | assumption)
                  have q160 : (ji122) < (l0_3.length : Int) := of_decide_eq_true (by first | (with_reducible assumption) | assumption)
                  obtain ⟨ad160, e160, hx160_0⟩ := Kd.at_int HR0_3.out (ji122) p160 q160
                  have hw160_0 := hx160_0
                  obtain rfl : ad159 = ad160 := (by injection e160)
                  replace hx160_0 := (HB.out.cell (World.block_lt_of_cell? w _ hx160_0)).trans hx160_0
                  replace p160 := eq_true p160
                  replace q160 := eq_true q160
                  refine start_ (n := 30) (S := fun w' => w'.cell? ⟨gb149, 0, none⟩ = some (.int .i64 a0_0) ∧ w'.cell? ⟨gb149, 1, none⟩ = some (.int .i64 a0_1) ∧ w'.cell? ⟨gb149, 2, none⟩ = some (.int .i64 a0_2) ∧ w'.cell? ⟨gb149, 3, none⟩ = some (.slice (some ad159) l0_3.length c0_3) ∧ w'.cell? (ad159.add (a1).toNat) = some (.int .i64 (rd l0_3 a1)) ∧ w'.cell? (ad159.add ((ji122)).toNat) = some (.int .i64 (rd l0_3 (ji122)))) (ds := []) #[F, F, F, F, F, F, F, F, F, F, F, F, F, F, F, F, F, F, F, F, F, F, F, F, F, F, F, F, F, F] (by kernel_rfl) rfl rfl ⟨(blk_cell BK149.out 0).trans rfl, (blk_cell BK149.out 1).trans rfl, (blk_cell BK149.out 2).trans rfl, (blk_cell BK149.out 3).trans rfl, ((HB.out.cell (World.block_lt_of_cell? w _ hw159_0)).trans hw159_0), ((HB.out.cell (World.block_lt_of_cell? w _ hw160_0)).trans hw160_0)⟩ (fun hHeld => ?_); refine with_tabW offertorylaw28_RankBounds.tab11 offertorylaw28_RankBounds.bits11 (fun HT_ HW_ => ?_)
                  generalize wc.drew = w125 at BK149 HB hx159_0 hx160_0 hHeld ⊢
                  refine one_ (i := 0) (N := some 83) #[T, F, F, F, F, F, F, F, F, F, F, F, F, F, F, F, F, F, F, F, F, F, F, F, F, F, F, F, F, F] rfl rfl (one_of HT_.out (by kernel_rfl)) (by decide) (fun K hK => ?_)
                  refine goes_ Try.func8 (by kernel_rfl) rfl #[] (by rfl) rfl rfl (by (try simp only [List.map_toArray, List.map_cons, List.map_nil]); first | done | rfl | (simp only [List.length_drop, List.length_take]; rfl)) ?_
                  with_reducible refine (offertorylaw28_awake.calls kj19  true _ A115.out).mono ?_
                  rintro e w126 ⟨rfl, hb⟩
                  refine ⟨_, rfl, ?_⟩
                  have n0_ := Aside0.mk (blk_below (g := gb149) (o := .cells #[.int .i64 a0_0, .int .i64 a0_1, .int .i64 a0_2, .slice (some ad159) l0_3.length c0_3] 24 (0, 0)) (by (with_reducible repeat (first | refine blk_drewN ?_ _ | refine blk_drew ?_ | refine blk_alloc ?_ _)); exact BK149.out) hb)
                  have n1_ := Aside0.mk (below_step (by repeat (first | (with_reducible first | exact HB.out | apply below_alloc | apply pw_below_drewN | apply below_drew1 | refine below_set ?_ GE149.out) | exact HB.out)) hb)
                  clear BK149
                  clear HB
                  have BK149 := n0_
                  have HB := n1_
                  clear n0_ n1_
                  (try clear hb)
                  (try clear hb2)
                  (try clear hk)
                  (try clear hi)
                  refine hK.out _ _ ⟨(blk_cell BK149.out 0).trans rfl, (blk_cell BK149.out 1).trans rfl, (blk_cell BK149.out 2).trans rfl, (blk_cell BK149.out 3).trans rfl, ((HB.out.cell (World.block_lt_of_cell? w _ hw159_0)).trans hw159_0), ((HB.out.cell (World.block_lt_of_cell? w _ hw160_0)).trans hw160_0)⟩ (fun hHeld => ?_)
                  clear hK K
                  refine norm_ (a' := ?_) ?_ ?_
                  rotate_left
                  ·
                   show Act.put _ (some 83) _ = _
                   simp only [Act.put, List.setIfInBounds_toArray, List.set_cons_zero, List.set_cons_succ, i64_w, i32_w]
                   rfl
                  refine pure_ (i := 1) (N := some 84) (v := ?_) (a' := ?_) #[T, T, F, F, F, F, F, F, F, F, F, F, F, F, F, F, F, F, F, F, F, F, F, F, F, F, F, F, F, F] rfl rfl (any_of HT_.out (by kernel_rfl)) (fun _ _ _ h => h) (Or.inl ⟨by rfl, ?_⟩) ?_ ?_
                  rotate_left
                  ·
                   intro w'
                   (try simp only [add_plain] at s0 s1 s2 s3 s4 s5)
                   go_simp
                   with_reducible rfl
                  rotate_left
                  ·
                   simp only [Act.put, List.setIfInBounds_toArray, List.set_cons_zero, List.set_cons_succ, i64_w, i32_w]
                   rfl
                  refine pure_ (i := 2) (N := some 85) (v := ?_) (a' := ?_) #[T, T, T, F, F, F, F, F, F, F, F, F, F, F, F, F, F, F, F, F, F, F, F, F, F, F, F, F, F, F] rfl rfl (any_of HT_.out (by kernel_rfl)) (fun _ _ _ h => h) (Or.inl ⟨by rfl, ?_⟩) ?_ ?_
                  rotate_left
                  ·
                   intro w'
                   (try simp only [add_plain] at s0 s1 s2 s3 s4 s5)
                   go_simp
                   with_reducible rfl
                  rotate_left
                  ·
                   simp only [Act.put, List.setIfInBounds_toArray, List.set_cons_zero, List.set_cons_succ, i64_w, i32_w]
                   rfl
                  refine pure_ (i := 3) (N := some 86) (v := ?_) (a' := ?_) #[T, T, T, T, F, F, F, F, F, F, F, F, F, F, F, F, F, F, F, F, F, F, F, F, F, F, F, F, F, F] rfl rfl (any_of HT_.out (by kernel_rfl)) (fun _ _ _ h => h) (Or.inl ⟨by rfl, ?_⟩) ?_ ?_
                  rotate_left
                  ·
                   intro w'
                   (try simp only [add_plain] at s0 s1 s2 s3 s4 s5)
                   go_simp
                   with_reducible rfl
                  rotate_left
                  ·
                   simp only [Act.put, List.setIfInBounds_toArray, List.set_cons_zero, List.set_cons_succ, i64_w, i32_w]
                   rfl
                  refine pure_ (i := 4) (N := some 87) (v := ?_) (a' := ?_) #[T, T, T, T, T, F, F, F, F, F, F, F, F, F, F, F, F, F, F, F, F, F, F, F, F, F, F, F, F, F] rfl rfl (any_of HT_.out (by kernel_rfl)) (fun _ _ _ h => h) (Or.inl ⟨by rfl, ?_⟩) ?_ ?_
                  rotate_left
                  ·
                   intro w'
                   (try simp only [add_plain] at s0 s1 s2 s3 s4 s5)
                   go_simp
                   with_reducible rfl
                  rotate_left
                  ·
                   simp only [Act.put, List.setIfInBounds_toArray, List.set_cons_zero, List.set_cons_succ, i64_w, i32_w]
                   rfl
                  refine pure_ (i := 5) (N := some 88) (v := ?_) (a' := ?_) #[T, T, T, T, T, T, F, F, F, F, F, F, F, F, F, F, F, F, F, F, F, F, F, F, F, F, F, F, F, F] rfl rfl (any_of HT_.out (by kernel_rfl)) (fun _ _ _ h => h) (Or.inl ⟨by rfl, ?_⟩) ?_ ?_
                  rotate_left
                  ·
                   intro w'
                   (try simp only [add_plain] at s0 s1 s2 s3 s4 s5)
                   go_simp
                   with_reducible rfl
                  rotate_left
                  ·
                   simp only [Act.put, List.setIfInBounds_toArray, List.set_cons_zero, List.set_cons_succ, i64_w, i32_w]
                   rfl
                  refine pure_ (i := 6) (N := some 89) (v := ?_) (a' := ?_) #[T, T, T, T, T, T, T, F, F, F, F, F, F, F, F, F, F, F, F, F, F, F, F, F, F, F, F, F, F, F] rfl rfl (any_of HT_.out (by kernel_rfl)) (fun _ _ _ h => h) (Or.inl ⟨by rfl, ?_⟩) ?_ ?_
                  rotate_left
                  ·
                   intro w'
                   (try simp only [add_plain] at s0 s1 s2 s3 s4 s5)
                   go_simp
                   with_reducible rfl
                  rotate_left
                  ·
                   simp only [Act.put, List.setIfInBounds_toArray, List.set_cons_zero, List.set_cons_succ, i64_w, i32_w]
                   rfl
                  refine pure_ (i := 7) (N := some 90) (v := ?_) (a' := ?_) #[T, T, T, T, T, T, T, T, F, F, F, F, F, F, F, F, F, F, F, F, F, F, F, F, F, F, F, F, F, F] rfl rfl (any_of HT_.out (by kernel_rfl)) (fun _ _ _ h => h) (Or.inl ⟨by rfl, ?_⟩) ?_ ?_
                  rotate_left
                  ·
                   intro w'
                   (try simp only [add_plain] at s0 s1 s2 s3 s4 s5)
                   go_simp
                   with_reducible rfl
                  rotate_left
                  ·
                   simp only [Act.put, List.setIfInBounds_toArray, List.set_cons_zero, List.set_cons_succ, i64_w, i32_w]
                   rfl
                  refine pure_ (i := 8) (N := some 91) (v := ?_) (a' := ?_) #[T, T, T, T, T, T, T, T, T, F, F, F, F, F, F, F, F, F, F, F, F, F, F, F, F, F, F, F, F, F] rfl rfl (any_of HT_.out (by kernel_rfl)) (fun _ _ _ h => h) (Or.inl ⟨by rfl, ?_⟩) ?_ ?_
                  rotate_left
                  ·
                   intro w'
                   (try simp only [add_plain] at s0 s1 s2 s3 s4 s5)
                   go_simp
                   with_reducible rfl
                  rotate_left
                  ·
                   simp only [Act.put, List.setIfInBounds_toArray, List.set_cons_zero, List.set_cons_succ, i64_w, i32_w]
                   rfl
                  refine pure_ (i := 9) (N := some 92) (v := ?_) (a' := ?_) #[T, T, T, T, T, T, T, T, T, T, F, F, F, F, F, F, F, F, F, F, F, F, F, F, F, F, F, F, F, F] rfl rfl (any_of HT_.out (by kernel_rfl)) (fun _ _ _ h => h) (Or.inl ⟨by rfl, ?_⟩) ?_ ?_
                  rotate_left
                  ·
                   intro w'
                   (try simp only [add_plain] at s0 s1 s2 s3 s4 s5)
                   go_simp
                   with_reducible rfl
                  rotate_left
                  ·
                   simp only [Act.put, List.setIfInBounds_toArray, List.set_cons_zero, List.set_cons_succ, i64_w, i32_w]
                   rfl
                  refine pure_ (i := 10) (N := some 93) (v := ?_) (a' := ?_) #[T, T, T, T, T, T, T, T, T, T, T, F, F, F, F, F, F, F, F, F, F, F, F, F, F, F, F, F, F, F] rfl rfl (any_of HT_.out (by kernel_rfl)) (fun _ _ _ h => h) (Or.inl ⟨by rfl, ?_⟩) ?_ ?_
                  rotate_left
                  ·
                   intro w'
                   (try simp only [add_plain] at s0 s1 s2 s3 s4 s5)
                   go_simp
                   with_reducible rfl
                  rotate_left
                  ·
                   simp only [Act.put, List.setIfInBounds_toArray, List.set_cons_zero, List.set_cons_succ, i64_w, i32_w]
                   rfl
                  refine pure_ (i := 11) (N := some 94) (v := ?_) (a' := ?_) #[T, T, T, T, T, T, T, T, T, T, T, T, F, F, F, F, F, F, F, F, F, F, F, F, F, F, F, F, F, F] rfl rfl (any_of HT_.out (by kernel_rfl)) (fun _ _ _ h => h) (Or.inl ⟨by rfl, ?_⟩) ?_ ?_
                  rotate_left
                  ·
                   intro w'
                   (try simp only [add_plain] at s0 s1 s2 s3 s4 s5)
                   go_simp
                   with_reducible rfl
                  rotate_left
                  ·
                   simp only [Act.put, List.setIfInBounds_toArray, List.set_cons_zero, List.set_cons_succ, i64_w, i32_w]
                   rfl
                  refine pure_ (i := 12) (N := some 95) (v := ?_) (a' := ?_) #[T, T, T, T, T, T, T, T, T, T, T, T, T, F, F, F, F, F, F, F, F, F, F, F, F, F, F, F, F, F] rfl rfl (any_of HT_.out (by kernel_rfl)) (fun _ _ _ h => h) (Or.inl ⟨by rfl, ?_⟩) ?_ ?_
                  rotate_left
                  ·
                   intro w'
                   (try simp only [add_plain] at s0 s1 s2 s3 s4 s5)
                   go_simp
                   with_reducible rfl
                  rotate_left
                  ·
                   simp only [Act.put, List.setIfInBounds_toArray, List.set_cons_zero, List.set_cons_succ, i64_w, i32_w]
                   rfl
                  refine pure_ (i := 13) (N := some 96) (v := ?_) (a' := ?_) #[T, T, T, T, T, T, T, T, T, T, T, T, T, T, F, F, F, F, F, F, F, F, F, F, F, F, F, F, F, F] rfl rfl (any_of HT_.out (by kernel_rfl)) (fun _ _ _ h => h) (Or.inl ⟨by rfl, ?_⟩) ?_ ?_
                  rotate_left
                  ·
                   intro w'
                   (try simp only [add_plain] at s0 s1 s2 s3 s4 s5)
                   go_simp
                   with_reducible rfl
                  rotate_left
                  ·
                   simp only [Act.put, List.setIfInBounds_toArray, List.set_cons_zero, List.set_cons_succ, i64_w, i32_w]
                   rfl
                  refine pure_ (i := 14) (N := some 97) (v := ?_) (a' := ?_) #[T, T, T, T, T, T, T, T, T, T, T, T, T, T, T, F, F, F, F, F, F, F, F, F, F, F, F, F, F, F] rfl rfl (any_of HT_.out (by kernel_rfl)) (fun _ _ _ h => h) (Or.inl ⟨by rfl, ?_⟩) ?_ ?_
                  rotate_left
                  ·
                   intro w'
                   (try simp only [add_plain] at s0 s1 s2 s3 s4 s5)
                   go_simp
                   with_reducible rfl
                  rotate_left
                  ·
                   simp only [Act.put, List.setIfInBounds_toArray, List.set_cons_zero, List.set_cons_succ, i64_w, i32_w]
                   rfl
                  refine pure_ (i := 15) (N := some 98) (v := ?_) (a' := ?_) #[T, T, T, T, T, T, T, T, T, T, T, T, T, T, T, T, F, F, F, F, F, F, F, F, F, F, F, F, F, F] rfl rfl (any_of HT_.out (by kernel_rfl)) (fun _ _ _ h => h) (Or.inl ⟨by rfl, ?_⟩) ?_ ?_
                  rotate_left
                  ·
                   intro w'
                   (try simp only [add_plain] at s0 s1 s2 s3 s4 s5)
                   go_simp
                   with_reducible rfl
                  rotate_left
                  ·
                   simp only [Act.put, List.setIfInBounds_toArray, List.set_cons_zero, List.set_cons_succ, i64_w, i32_w]
                   rfl
                  refine pure_ (i := 16) (N := some 99) (v := ?_) (a' := ?_) #[T, T, T, T, T, T, T, T, T, T, T, T, T, T, T, T, T, F, F, F, F, F, F, F, F, F, F, F, F, F] rfl rfl (any_of HT_.out (by kernel_rfl)) (fun _ _ _ h => h) (Or.inl ⟨by rfl, ?_⟩) ?_ ?_
                  rotate_left
                  ·
                   intro w'
                   (try simp only [add_plain] at s0 s1 s2 s3 s4 s5)
                   go_simp
                   with_reducible rfl
                  rotate_left
                  ·
                   simp only [Act.put, List.setIfInBounds_toArray, List.set_cons_zero, List.set_cons_succ, i64_w, i32_w]
                   rfl
                  refine pure_ (i := 18) (N := some 101) (v := ?_) (a' := ?_) #[T, T, T, T, T, T, T, T, T, T, T, T, T, T, T, T, T, F, T, F, F, F, F, F, F, F, F, F, F, F] rfl rfl (any_of HT_.out (by kernel_rfl)) (fun _ _ _ h => h) (Or.inl ⟨by rfl, ?_⟩) ?_ ?_
                  rotate_left
                  ·
                   intro w'
                   (try simp only [add_plain] at s0 s1 s2 s3 s4 s5)
                   go_simp
                   with_reducible rfl
                  rotate_left
                  ·
                   simp only [Act.put, List.setIfInBounds_toArray, List.set_cons_zero, List.set_cons_succ, i64_w, i32_w]
                   rfl
                  refine pure_ (i := 21) (N := some 104) (v := ?_) (a' := ?_) #[T, T, T, T, T, T, T, T, T, T, T, T, T, T, T, T, T, F, T, F, F, T, F, F, F, F, F, F, F, F] rfl rfl (any_of HT_.out (by kernel_rfl)) (fun _ _ _ h => h) (Or.inl ⟨by rfl, ?_⟩) ?_ ?_
                  rotate_left
                  ·
                   intro w'
                   (try simp only [add_plain] at s0 s1 s2 s3 s4 s5)
                   go_simp
                   with_reducible rfl
                  rotate_left
                  ·
                   simp only [Act.put, List.setIfInBounds_toArray, List.set_cons_zero, List.set_cons_succ, i64_w, i32_w]
                   rfl
                  refine pure_ (i := 23) (N := some 106) (v := ?_) (a' := ?_) #[T, T, T, T, T, T, T, T, T, T, T, T, T, T, T, T, T, F, T, F, F, T, F, T, F, F, F, F, F, F] rfl rfl (any_of HT_.out (by kernel_rfl)) (fun _ _ _ h => h) (Or.inl ⟨by rfl, ?_⟩) ?_ ?_
                  rotate_left
                  ·
                   intro w'
                   (try simp only [add_plain] at s0 s1 s2 s3 s4 s5)
                   go_simp
                   with_reducible rfl
                  rotate_left
                  ·
                   simp only [Act.put, List.setIfInBounds_toArray, List.set_cons_zero, List.set_cons_succ, i64_w, i32_w]
                   rfl
                  refine pure_ (i := 24) (N := some 107) (v := ?_) (a' := ?_) #[T, T, T, T, T, T, T, T, T, T, T, T, T, T, T, T, T, F, T, F, F, T, F, T, T, F, F, F, F, F] rfl rfl (any_of HT_.out (by kernel_rfl)) (fun _ _ _ h => h) (Or.inl ⟨by rfl, ?_⟩) ?_ ?_
                  rotate_left
                  ·
                   intro w'
                   (try simp only [add_plain] at s0 s1 s2 s3 s4 s5)
                   go_simp
                   with_reducible rfl
                  rotate_left
                  ·
                   simp only [Act.put, List.setIfInBounds_toArray, List.set_cons_zero, List.set_cons_succ, i64_w, i32_w]
                   rfl
                  refine take_ (i := 17) (N := some 100) (v := ?_) (a' := ?_) #[T, T, T, T, T, T, T, T, T, T, T, T, T, T, T, T, T, T, T, F, F, T, F, T, T, F, F, F, F, F] rfl rfl (take_ofW HT_.out HW_.out (by kernel_rfl)) (fun _ _ _ h => h) (Or.inl ⟨by rfl, ?_⟩) hHeld ?_ ?_
                  rotate_left
                  ·
                   rintro w' ⟨s0, s1, s2, s3, s4, s5⟩
                   (try simp only [add_plain] at s0 s1 s2 s3 s4 s5)
                   go_simp
                   with_reducible rfl
                  rotate_left
                  ·
                   simp only [Act.put, List.setIfInBounds_toArray, List.set_cons_zero, List.set_cons_succ, i64_w, i32_w]
                   rfl
                  refine pure_ (i := 19) (N := some 102) (v := ?_) (a' := ?_) #[T, T, T, T, T, T, T, T, T, T, T, T, T, T, T, T, T, T, T, T, F, T, F, T, T, F, F, F, F, F] rfl rfl (any_of HT_.out (by kernel_rfl)) (fun _ _ _ h => h) (Or.inl ⟨by rfl, ?_⟩) ?_ ?_
                  rotate_left
                  ·
                   intro w'
                   (try simp only [add_plain] at s0 s1 s2 s3 s4 s5)
                   go_simp
                   with_reducible rfl
                  rotate_left
                  ·
                   simp only [Act.put, List.setIfInBounds_toArray, List.set_cons_zero, List.set_cons_succ, i64_w, i32_w]
                   rfl
                  refine take_ (i := 20) (N := some 103) (v := ?_) (a' := ?_) #[T, T, T, T, T, T, T, T, T, T, T, T, T, T, T, T, T, T, T, T, T, T, F, T, T, F, F, F, F, F] rfl rfl (take_ofW HT_.out HW_.out (by kernel_rfl)) (fun _ _ _ h => h) (Or.inl ⟨by rfl, ?_⟩) hHeld ?_ ?_
                  rotate_left
                  ·
                   rintro w' ⟨s0, s1, s2, s3, s4, s5⟩
                   (try simp only [add_plain] at s0 s1 s2 s3 s4 s5)
                   go_simp
                   with_reducible rfl
                  rotate_left
                  ·
                   simp only [Act.put, List.setIfInBounds_toArray, List.set_cons_zero, List.set_cons_succ, i64_w, i32_w]
                   rfl
                  refine take_ (i := 22) (N := some 105) (v := ?_) (a' := ?_) #[T, T, T, T, T, T, T, T, T, T, T, T, T, T, T, T, T, T, T, T, T, T, T, T, T, F, F, F, F, F] rfl rfl (take_ofW HT_.out HW_.out (by kernel_rfl)) (fun _ _ _ h => h) (Or.inl ⟨by rfl, ?_⟩) hHeld ?_ ?_
                  rotate_left
                  ·
                   rintro w' ⟨s0, s1, s2, s3, s4, s5⟩
                   (try simp only [add_plain] at s0 s1 s2 s3 s4 s5)
                   go_simp
                   with_reducible rfl
                  rotate_left
                  ·
                   simp only [Act.put, List.setIfInBounds_toArray, List.set_cons_zero, List.set_cons_succ, i64_w, i32_w]
                   rfl
                  refine pure_ (i := 25) (N := some 108) (v := ?_) (a' := ?_) #[T, T, T, T, T, T, T, T, T, T, T, T, T, T, T, T, T, T, T, T, T, T, T, T, T, T, F, F, F, F] rfl rfl (any_of HT_.out (by kernel_rfl)) (fun _ _ _ h => h) (Or.inl ⟨by rfl, ?_⟩) ?_ ?_
                  rotate_left
                  ·
                   intro w'
                   (try simp only [add_plain] at s0 s1 s2 s3 s4 s5)
                   go_simp
                   with_reducible rfl
                  rotate_left
                  ·
                   simp only [Act.put, List.setIfInBounds_toArray, List.set_cons_zero, List.set_cons_succ, i64_w, i32_w]
                   rfl
                  refine take_ (i := 26) (N := some 109) (v := ?_) (a' := ?_) #[T, T, T, T, T, T, T, T, T, T, T, T, T, T, T, T, T, T, T, T, T, T, T, T, T, T, T, F, F, F] rfl rfl (take_ofW HT_.out HW_.out (by kernel_rfl)) (fun _ _ _ h => h) (Or.inl ⟨by rfl, ?_⟩) hHeld ?_ ?_
                  rotate_left
                  ·
                   rintro w' ⟨s0, s1, s2, s3, s4, s5⟩
                   (try simp only [add_plain] at s0 s1 s2 s3 s4 s5)
                   go_simp
                   with_reducible rfl
                  rotate_left
                  ·
                   simp only [Act.put, List.setIfInBounds_toArray, List.set_cons_zero, List.set_cons_succ, i64_w, i32_w]
                   rfl
                  refine pure_ (i := 27) (N := some 110) (v := ?_) (a' := ?_) #[T, T, T, T, T, T, T, T, T, T, T, T, T, T, T, T, T, T, T, T, T, T, T, T, T, T, T, T, F, F] rfl rfl (any_of HT_.out (by kernel_rfl)) (fun _ _ _ h => h) (Or.inl ⟨by rfl, ?_⟩) ?_ ?_
                  rotate_left
                  ·
                   intro w'
                   (try simp only [add_plain] at s0 s1 s2 s3 s4 s5)
                   go_simp
                   with_reducible rfl
                  rotate_left
                  ·
                   simp only [Act.put, List.setIfInBounds_toArray, List.set_cons_zero, List.set_cons_succ, i64_w, i32_w]
                   rfl
                  refine pure_ (i := 28) (N := some 111) (v := ?_) (a' := ?_) #[T, T, T, T, T, T, T, T, T, T, T, T, T, T, T, T, T, T, T, T, T, T, T, T, T, T, T, T, T, F] rfl rfl (any_of HT_.out (by kernel_rfl)) (fun _ _ _ h => h) (Or.inl ⟨by rfl, ?_⟩) ?_ ?_
                  rotate_left
                  ·
                   intro w'
                   (try simp only [add_plain] at s0 s1 s2 s3 s4 s5)
                   go_simp
                   with_reducible rfl
                  rotate_left
                  ·
                   simp only [Act.put, List.setIfInBounds_toArray, List.set_cons_zero, List.set_cons_succ, i64_w, i32_w]
                   rfl
                  refine pure_ (i := 29) (N := some 6) (v := ?_) (a' := ?_) #[T, T, T, T, T, T, T, T, T, T, T, T, T, T, T, T, T, T, T, T, T, T, T, T, T, T, T, T, T, T] rfl rfl (any_of HT_.out (by kernel_rfl)) (fun _ _ _ h => h) (Or.inl ⟨by rfl, ?_⟩) ?_ ?_
                  rotate_left
                  ·
                   intro w'
                   (try simp only [add_plain] at s0 s1 s2 s3 s4 s5)
                   go_simp
                   with_reducible rfl
                  rotate_left
                  ·
                   simp only [Act.put, List.setIfInBounds_toArray, List.set_cons_zero, List.set_cons_succ, i64_w, i32_w]
                   rfl
                  refine done_ (done_of HT_.out (by kernel_rfl)) ?_
                  try go_wp2
                  go_ret
                  exact ⟨by first | rfl | (simp [errW_none, errW_some] <;> rfl) | (simp only [← hji122]; first | rfl | (simp [errW_none, errW_some] <;> rfl)) | (simp [*, errW_none, errW_some] <;> rfl), by repeat (first | (with_reducible first | exact HB.out | apply below_alloc | apply pw_below_drewN | apply below_drew1 | refine below_set ?_ GE149.out) | exact HB.out)⟩
                 ·
                  rw [if_neg c124] at H
                  exact absurd H (by simp)
                ·
                 rw [if_neg c123] at H
                 exact absurd H (by simp)
               ·
                rw [if_neg c121] at H
                exact absurd H (by simp)
              ·
               rw [if_neg c120] at H
               exact absurd H (by simp)
             ·
              rw [if_neg c119] at H
              exact absurd H (by simp)
            ·
             rw [if_neg c118] at H
             exact absurd H (by simp)
           ·
            rw [if_neg c117] at H
            exact absurd H (by simp)
          ·
           replace c116 := Bool.eq_false_iff.mpr c116
           subst c116
           have H1 : (none) = some r := by rw [if_neg (show ¬ (false = true) by decide)] at H; exact H
           clear H
           have H := H1
           clear H1
           exact absurd H (by simp)
     ·
      rw [if_neg c17] at H
      have c17b0 : (x10_14 == 0) = false := beq_eq_false_iff_ne.mpr c17
      have c17b1 : (x10_14 != 0) = true := bne_iff_ne.mpr c17
      replace H := Option.bind_eq_some_iff.mp H
      obtain ⟨t154, A1270, H⟩ := H
      replace H : (if t154 = true then (if t152 = x10_14 then (if t150 = 0 then (some (t151 == 0)) else (none)) else (none)) else (none)) = some r := H
      have A127 := Aside0.mk A1270
      clear A1270
      by_cases c128 : t154 = true
      ·
       subst c128
       have H1 : (if t152 = x10_14 then (if t150 = 0 then (some (t151 == 0)) else (none)) else (none)) = some r := by rw [if_pos rfl] at H; exact H
       clear H
       have H := H1
       clear H1
       by_cases c129 : t152 = x10_14
       ·
        rw [if_pos c129] at H
        have c129b0 : (t152 == x10_14) = true := beq_iff_eq.mpr c129
        have c129b1 : (t152 != x10_14) = false := bne_eq_false_iff_eq.mpr c129
        clear c129
        by_cases c130 : t150 = 0
        ·
         rw [if_pos c130] at H
         have c130b0 : (t150 == 0) = true := beq_iff_eq.mpr c130
         have c130b1 : (t150 != 0) = false := bne_eq_false_iff_eq.mpr c130
         clear c130
         obtain rfl := Option.some.inj H
         go_wp2_with (first | ((with_reducible refine gate_callee (f := 8) rfl ?_); refine goesL_ (some 38) rfl rfl Try.func8 (by kernel_rfl) rfl #[] rfl (by (try simp only [List.map_toArray, List.map_cons, List.map_nil]); first | done | rfl | (simp only [List.length_drop, List.length_take]; rfl)) ?_; (with_reducible refine (offertorylaw28_awake.calls kj14  true _ A127.out).mono ?_); rintro e w131 ⟨rfl, hb⟩; refine ⟨_, rfl, ?_⟩; have n0_ := Aside0.mk (blk_below (g := gb149) (o := .cells #[.int .i64 a0_0, .int .i64 a0_1, .int .i64 a0_2, .slice A0_3 l0_3.length c0_3] 24 (0, 0)) (by (with_reducible repeat (first | refine blk_drewN ?_ _ | refine blk_drew ?_ | refine blk_alloc ?_ _)); exact BK149.out) hb); have n1_ := Aside0.mk (below_step (by repeat (first | (with_reducible first | exact HB.out | apply below_alloc | apply pw_below_drewN | apply below_drew1 | refine below_set ?_ GE149.out) | exact HB.out)) hb); clear BK149; clear HB; have BK149 := n0_; have HB := n1_; clear n0_ n1_; (try clear hb); (try clear hb2); (try clear hk); (try clear hi)))
         go_ret
         exact ⟨by first | rfl | (simp [errW_none, errW_some] <;> rfl) | (simp [*, errW_none, errW_some] <;> rfl), by repeat (first | (with_reducible first | exact HB.out | apply below_alloc | apply pw_below_drewN | apply below_drew1 | refine below_set ?_ GE149.out) | exact HB.out)⟩
        ·
         rw [if_neg c130] at H
         exact absurd H (by simp)
       ·
        rw [if_neg c129] at H
        exact absurd H (by simp)
      ·
       replace c128 := Bool.eq_false_iff.mpr c128
       subst c128
       have H1 : (none) = some r := by rw [if_neg (show ¬ (false = true) by decide)] at H; exact H
       clear H
       have H := H1
       clear H1
       exact absurd H (by simp)

end Go.Proofs.Ythokkogdkpmdcaa.PAll
