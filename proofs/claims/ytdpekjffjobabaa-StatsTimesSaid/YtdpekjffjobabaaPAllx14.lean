/- The Go functions that the laws reach, as Lean functions, and that each call comes to what its function says. Written by a program of this session (a turned copy of the kit's print). No condition beyond those that each theorem states. -/
import Derived.Test.YtdpekjffjobabaaPAllx0
import Derived.Test.YtdpekjffjobabaaPAllx1
import Derived.Test.YtdpekjffjobabaaPAllx2
import Derived.Test.YtdpekjffjobabaaPAllx7
import Derived.Test.YtdpekjffjobabaaPAllx8
import Derived.Test.YtdpekjffjobabaaPAllx9
import Derived.Test.YtdpekjffjobabaaPAllx10
import Derived.Test.YtdpekjffjobabaaPAllx11
import Derived.Test.YtdpekjffjobabaaPAllx13
namespace Go.Proofs.Ytdpekjffjobabaa.PAll
open Go.RowKit Go.Proofs.YtdpekjffjobabaaW.PrintWords Go.Proofs.YtdpekjffjobabaaW.PrintLast Go.Proofs.YtdpekjffjobabaaW.PrintMore
attribute [local go_sem] max2_int min2_int max_two min_two max_three min_three max_four min_four   -- for this text's walks alone
set_option linter.unusedVariables false
set_option linter.unusedSimpArgs false

attribute [local go_sem high] eqA27
theorem offertorylaw13_StatsTimes.keepB {W0 W w1 : World} {g : Nat} {o : Obj} (h : Aside0 (W0.heap[g]? = some o)) (hb : Below W.heap.size W w1) (hs : W0.heap[g]? = some o → W.heap[g]? = some o := by intro h_; (with_reducible repeat (first | refine blk_drewN ?_ _ | refine blk_drew ?_ | refine blk_alloc ?_ _)); exact h_) : Aside0 (w1.heap[g]? = some o) := ⟨(hb.block g (blk_lt (hs h.out))).trans (hs h.out)⟩
theorem offertorylaw13_StatsTimes.neL {W0 W : World} {g gb : Nat} {o : Obj} (h : Aside0 (W0.heap[g]? = some o)) (hg : gb = W.heap.size) (hs : W0.heap[g]? = some o → W.heap[g]? = some o := by intro h_; (with_reducible repeat (first | refine blk_drewN ?_ _ | refine blk_drew ?_ | refine blk_alloc ?_ _)); exact h_) : Aside0 (g ≠ gb) := ⟨by rw [hg]; exact Nat.ne_of_lt (blk_lt (hs h.out))⟩
theorem offertorylaw13_StatsTimes.neG {W0 W : World} {g gb : Nat} {o : Obj} (h : Aside0 (W0.heap[g]? = some o)) (hg : gb = W.heap.size) (hs : W0.heap[g]? = some o → W.heap[g]? = some o := by intro h_; (with_reducible repeat (first | refine blk_drewN ?_ _ | refine blk_drew ?_ | refine blk_alloc ?_ _)); exact h_) : Aside0 (gb ≠ g) := ⟨by rw [hg]; exact Nat.ne_of_gt (blk_lt (hs h.out))⟩
/-! ### offertorylaw13_StatsTimes: function 7 -/
mutual
def offertorylaw13_StatsTimes.j0 : Nat → List Int → Int → Bool → Int → Int → Int → List Int → Option (Bool)
 | 0, _, _, _, _, _, _, _ => none
 | k + 1, x1, x2, x38, x308000, x308001, x308002, x308003 => if x38 = true then ((offertorylaw13_awake.f k).bind fun t309 => (some t309)) else ((offertoryref09_Encode.f k x308000 x308001 x308002 x308003 x1).bind fun t310 => (offertorylaw13_StatsTimes.l0 k x1 x2 t310 0 x308000 x308001 x308002 x308003))
def offertorylaw13_StatsTimes.l0 : Nat → List Int → Int → List Int → Int → Int → Int → Int → List Int → Option (Bool)
 | 0, _, _, _, _, _, _, _, _ => none
 | k + 1, x1, x2, x7, x8, x308000, x308001, x308002, x308003 => if x8 < (x7.length : Int) then (if 0 ≤ x8 then (offertorylaw13_StatsTimes.l0 k x1 x2 (x7.set (x8 : Int).toNat (((rd x7 x8) * x2) % 4294967296)) (wrap64 (x8 + 1)) x308000 x308001 x308002 x308003) else (none)) else ((stats_Decode.f k x308000 x308001 x308002 x308003 x7).bind fun bt315 => ((offertoryref09_Stats.f k x308000 x308001 x308002 x308003 x1).bind fun bt326 => ((offertoryref09_Of.f 0 (IntKind.u64.wrap (x2))).bind fun bt336 => ((offertorylaw13_awake.f k).bind fun t345 => (if t345 = true then (if bt315.2.2.2.2.2.2.2 = 0 then (if bt315.2.1 = (wrap64 ((x1.length : Int) * (wrap64 (x2)))) then ((offertoryref09_Of.f bt326.2.2.1 bt326.2.2.2.1).bind fun bt346 => ((offertoryref09_Mul.f bt346.1 bt346.2.1 bt346.2.2.1 bt346.2.2.2.1 bt346.2.2.2.2.1 bt346.2.2.2.2.2.1 bt346.2.2.2.2.2.2.1 bt346.2.2.2.2.2.2.2 bt336.1 bt336.2.1 bt336.2.2.1 bt336.2.2.2.1 bt336.2.2.2.2.1 bt336.2.2.2.2.2.1 bt336.2.2.2.2.2.2.1 bt336.2.2.2.2.2.2.2).bind fun bt354 => ((offertoryref09_Big_Wide.f bt354.1 bt354.2.1 bt354.2.2.1 bt354.2.2.2.1 bt354.2.2.2.2.1 bt354.2.2.2.2.2.1 bt354.2.2.2.2.2.2.1 bt354.2.2.2.2.2.2.2).bind fun bt362 => (if (bt315.2.2.1 == bt362.1 && (bt315.2.2.2.1 == bt362.2)) = true then ((offertoryref09_Of.f bt326.2.2.2.2.1 bt326.2.2.2.2.2.1).bind fun bt364 => ((offertoryref09_Mul.f bt364.1 bt364.2.1 bt364.2.2.1 bt364.2.2.2.1 bt364.2.2.2.2.1 bt364.2.2.2.2.2.1 bt364.2.2.2.2.2.2.1 bt364.2.2.2.2.2.2.2 bt336.1 bt336.2.1 bt336.2.2.1 bt336.2.2.2.1 bt336.2.2.2.2.1 bt336.2.2.2.2.2.1 bt336.2.2.2.2.2.2.1 bt336.2.2.2.2.2.2.2).bind fun bt372 => ((offertoryref09_Big_Wide.f bt372.1 bt372.2.1 bt372.2.2.1 bt372.2.2.2.1 bt372.2.2.2.2.1 bt372.2.2.2.2.2.1 bt372.2.2.2.2.2.2.1 bt372.2.2.2.2.2.2.2).bind fun bt380 => (if (bt315.2.2.2.2.1 == bt380.1 && (bt315.2.2.2.2.2.1 == bt380.2)) = true then (some (bt315.2.2.2.2.2.2.1 == bt326.2.2.2.2.2.2)) else (none))))) else (none))))) else (none)) else (none)) else (none))))))
end
def offertorylaw13_StatsTimes.f (k : Nat) (a0_0 : Int) (a0_1 : Int) (a0_2 : Int) (l0_3 : List Int) (l1 : List Int) (a2 : Int) : Option (Bool) := (offertoryref09_Sound.f k a0_0 a0_1 a0_2 l0_3).bind fun t308 => (if t308 = 0 then (if (l1.length : Int) = 0 then (offertorylaw13_StatsTimes.j0 k l1 a2 true a0_0 a0_1 a0_2 l0_3) else (if (l1.length : Int) > 60 then (offertorylaw13_StatsTimes.j0 k l1 a2 true a0_0 a0_1 a0_2 l0_3) else (if a2 = 0 then (offertorylaw13_StatsTimes.j0 k l1 a2 true a0_0 a0_1 a0_2 l0_3) else (offertorylaw13_StatsTimes.j0 k l1 a2 (decide ((IntKind.u64.wrap ((IntKind.u64.wrap (a2)) * (IntKind.u64.wrap ((l1.length : Int))))) ≥ 4294967296)) a0_0 a0_1 a0_2 l0_3)))) else (offertorylaw13_StatsTimes.j0 k l1 a2 true a0_0 a0_1 a0_2 l0_3))
theorem offertorylaw13_StatsTimes.mono_l : ∀ k, (∀ y0 y1 y2 y3 y4 y5 y6, LeO (offertorylaw13_StatsTimes.j0 k y0 y1 y2 y3 y4 y5 y6) (offertorylaw13_StatsTimes.j0 (k + 1) y0 y1 y2 y3 y4 y5 y6)) ∧ (∀ y0 y1 y2 y3 y4 y5 y6 y7, LeO (offertorylaw13_StatsTimes.l0 k y0 y1 y2 y3 y4 y5 y6 y7) (offertorylaw13_StatsTimes.l0 (k + 1) y0 y1 y2 y3 y4 y5 y6 y7))
 | 0 => ⟨fun _ _ _ _ _ _ _ r h => by simp [offertorylaw13_StatsTimes.j0] at h, fun _ _ _ _ _ _ _ _ r h => by simp [offertorylaw13_StatsTimes.l0] at h⟩
 | k + 1 => by
  obtain ⟨ih0, ih1⟩ := offertorylaw13_StatsTimes.mono_l k
  refine ⟨?_, ?_⟩
  ·
   intro y0 y1 y2 y3 y4 y5 y6
   unfold offertorylaw13_StatsTimes.j0
   repeat' first
   | (with_reducible exact ih0 _ _ _ _ _ _ _)
   | (with_reducible exact ih1 _ _ _ _ _ _ _ _)
   | (with_reducible exact offertorylaw13_awake.mono _)
   | (with_reducible exact offertoryref09_Encode.mono _ _ _ _ _ _)
   | (with_reducible exact offertoryref09_Sound.mono _ _ _ _ _)
   | (with_reducible exact offertoryref09_Stats.mono _ _ _ _ _ _)
   | (with_reducible exact stats_Decode.mono _ _ _ _ _ _)
   | (with_reducible exact LeO.refl _)
   | (with_reducible exact LeO.none _)
   | (with_reducible refine LeO.ite ?_ ?_)
   | (with_reducible refine LeO.bind ?_ (fun _ => ?_))
   | exact ih0 _ _ _ _ _ _ _
   | exact ih1 _ _ _ _ _ _ _ _
   | exact offertorylaw13_awake.mono _
   | exact offertoryref09_Encode.mono _ _ _ _ _ _
   | exact offertoryref09_Sound.mono _ _ _ _ _
   | exact offertoryref09_Stats.mono _ _ _ _ _ _
   | exact stats_Decode.mono _ _ _ _ _ _
   | exact LeO.none _
   | refine LeO.ite ?_ ?_
   | refine LeO.bind ?_ (fun _ => ?_)
  ·
   intro y0 y1 y2 y3 y4 y5 y6 y7
   unfold offertorylaw13_StatsTimes.l0
   repeat' first
   | (with_reducible exact ih0 _ _ _ _ _ _ _)
   | (with_reducible exact ih1 _ _ _ _ _ _ _ _)
   | (with_reducible exact offertorylaw13_awake.mono _)
   | (with_reducible exact offertoryref09_Encode.mono _ _ _ _ _ _)
   | (with_reducible exact offertoryref09_Sound.mono _ _ _ _ _)
   | (with_reducible exact offertoryref09_Stats.mono _ _ _ _ _ _)
   | (with_reducible exact stats_Decode.mono _ _ _ _ _ _)
   | (with_reducible exact LeO.refl _)
   | (with_reducible exact LeO.none _)
   | (with_reducible refine LeO.ite ?_ ?_)
   | (with_reducible refine LeO.bind ?_ (fun _ => ?_))
   | exact ih0 _ _ _ _ _ _ _
   | exact ih1 _ _ _ _ _ _ _ _
   | exact offertorylaw13_awake.mono _
   | exact offertoryref09_Encode.mono _ _ _ _ _ _
   | exact offertoryref09_Sound.mono _ _ _ _ _
   | exact offertoryref09_Stats.mono _ _ _ _ _ _
   | exact stats_Decode.mono _ _ _ _ _ _
   | exact LeO.none _
   | refine LeO.ite ?_ ?_
   | refine LeO.bind ?_ (fun _ => ?_)
theorem offertorylaw13_StatsTimes.mono : ∀ a0 a1 a2 a3 a4 a5 k, LeO (offertorylaw13_StatsTimes.f k a0 a1 a2 a3 a4 a5) (offertorylaw13_StatsTimes.f (k + 1) a0 a1 a2 a3 a4 a5) := by
 intro a0 a1 a2 a3 a4 a5 k
 obtain ⟨ih0, ih1⟩ := offertorylaw13_StatsTimes.mono_l k
 unfold offertorylaw13_StatsTimes.f
 repeat' first
   | (with_reducible exact ih0 _ _ _ _ _ _ _)
   | (with_reducible exact ih1 _ _ _ _ _ _ _ _)
   | (with_reducible exact offertorylaw13_awake.mono _)
   | (with_reducible exact offertoryref09_Encode.mono _ _ _ _ _ _)
   | (with_reducible exact offertoryref09_Sound.mono _ _ _ _ _)
   | (with_reducible exact offertoryref09_Stats.mono _ _ _ _ _ _)
   | (with_reducible exact stats_Decode.mono _ _ _ _ _ _)
   | (with_reducible exact LeO.refl _)
   | (with_reducible exact LeO.none _)
   | (with_reducible refine LeO.ite ?_ ?_)
   | (with_reducible refine LeO.bind ?_ (fun _ => ?_))
   | exact ih0 _ _ _ _ _ _ _
   | exact ih1 _ _ _ _ _ _ _ _
   | exact offertorylaw13_awake.mono _
   | exact offertoryref09_Encode.mono _ _ _ _ _ _
   | exact offertoryref09_Sound.mono _ _ _ _ _
   | exact offertoryref09_Stats.mono _ _ _ _ _ _
   | exact stats_Decode.mono _ _ _ _ _ _
   | exact LeO.none _
   | refine LeO.ite ?_ ?_
   | refine LeO.bind ?_ (fun _ => ?_)
def offertorylaw13_StatsTimes.T11 : Bool × List (List Nat × List Nat) := (true, [([], []), ([0, 0], [0]), ([1], [1]), ([2, 1], [1, 2]), ([1, 3], [1, 3]), ([4, 1], [4]), ([5], [5]), ([6, 5], [5, 6]), ([5], [5]), ([8, 5], [5, 8]), ([5], [5]), ([10, 5], [5, 10]), ([9, 11, 5], [5, 9, 11]), ([7, 12, 5], [5, 7, 12]), ([5, 13], [5, 13]), ([14, 5], [14]), ([15], [15]), ([16, 15], [15, 16]), ([15], [15]), ([18, 15], [15, 18]), ([19, 15, 15], [15, 19]), ([15], [15]), ([20, 21, 20, 15], [15, 20, 21]), ([22, 22, 15], [15, 22]), ([17, 23, 15], [15, 17, 23]), ([15, 24], [15, 24]), ([25, 23], [25]), ([26], [26]), ([27, 26], [26, 27]), ([26], [26]), ([29, 26], [26, 29]), ([30, 26, 26], [26, 30]), ([26], [26]), ([31, 32, 31, 26], [26, 31, 32]), ([33, 33, 26], [26, 33]), ([28, 34, 26], [26, 28, 34]), ([26, 35], [26, 35]), ([36, 34], [36]), ([37], [37]), ([38, 37], [37, 38]), ([37], [37]), ([40, 37], [37, 40]), ([39, 41, 37], [37, 39, 41]), ([37, 42], [37, 42]), ([43, 37, 0, 1, 2, 3, 4, 5, 6, 7, 8, 9, 10, 11, 12, 13, 14, 15, 16, 17, 18, 19, 20, 21, 22, 23, 24, 25, 26, 27, 28, 29, 30, 31, 32, 33, 34, 35, 36, 37, 38, 39, 40, 41, 42, 43], [43])])
def offertorylaw13_StatsTimes.B11 : List Nat := [0, 1, 3, 7, 15, 31, 63, 127, 63, 319, 63, 1087, 3903, 8191, 16383, 32767, 65535, 131071, 65535, 327679, 851967, 65535, 3997695, 8191999, 16777215, 33554431, 67108863, 134217727, 268435455, 134217727, 671088639, 1744830463, 134217727, 8187281407, 16777215999, 34359738367, 68719476735, 137438953471, 274877906943, 549755813887, 274877906943, 1374389534719, 4398046511103, 8796093022207, 17592186044415]
theorem offertorylaw13_StatsTimes.tab11 : rtab .any (opsOf Try.f7 11) = offertorylaw13_StatsTimes.T11 := by kernel_rfl
theorem offertorylaw13_StatsTimes.bits11 : waitsOk offertorylaw13_StatsTimes.T11.2 offertorylaw13_StatsTimes.B11 = true := by kernel_rfl
set_option maxHeartbeats 8000000 in
set_option maxRecDepth 100000 in
theorem offertorylaw13_StatsTimes.calls (k : Nat) (a0_0 : Int) (a0_1 : Int) (a0_2 : Int) (A0_3 : Option Addr) (c0_3 : Nat) (l0_3 : List Int) (A1 : Option Addr) (c1 : Nat) (l1 : List Int) (a2 : Int) (r : Bool) (w : World) (hr0_3 : Kd.C (Kd.int .i64) w A0_3 l0_3.length l0_3) (hc0_3 : l0_3.length ≤ c0_3) (hr1 : Kd.C (Kd.int .i64) w A1 l1.length l1) (hc1 : l1.length ≤ c1) (h : offertorylaw13_StatsTimes.f k a0_0 a0_1 a0_2 l0_3 l1 a2 = some r) :
  Calls Try.prog 7 #[.agg #[.int .i64 a0_0, .int .i64 a0_1, .int .i64 a0_2, .slice A0_3 l0_3.length c0_3], .slice A1 l1.length c1, .int .u32 a2] w fun e w' => e = .returned (.bool r) ∧ Below w.heap.size w w' := by
 have hu24 := Try.underlying24
 have hu29 := Try.underlying29
 have hu27 := Try.underlying27
 have hu45 := Try.underlying45
 have HR0_3 := Aside0.mk hr0_3
 have HC0_3 := Aside0.mk hc0_3
 clear hr0_3 hc0_3
 have HR1 := Aside0.mk hr1
 have HC1 := Aside0.mk hc1
 clear hr1 hc1
 have HB := Aside0.mk (Below.refl w.heap.size w)
 have H : ((offertoryref09_Sound.f k a0_0 a0_1 a0_2 l0_3).bind fun t308 => (if t308 = 0 then (if (l1.length : Int) = 0 then (offertorylaw13_StatsTimes.j0 k l1 a2 true a0_0 a0_1 a0_2 l0_3) else (if (l1.length : Int) > 60 then (offertorylaw13_StatsTimes.j0 k l1 a2 true a0_0 a0_1 a0_2 l0_3) else (if a2 = 0 then (offertorylaw13_StatsTimes.j0 k l1 a2 true a0_0 a0_1 a0_2 l0_3) else (offertorylaw13_StatsTimes.j0 k l1 a2 (decide ((IntKind.u64.wrap ((IntKind.u64.wrap (a2)) * (IntKind.u64.wrap ((l1.length : Int))))) ≥ 4294967296)) a0_0 a0_1 a0_2 l0_3)))) else (offertorylaw13_StatsTimes.j0 k l1 a2 true a0_0 a0_1 a0_2 l0_3))) = some r := h
 clear h
 have HC4 := Aside0.mk H
 clear H
 go_enter Try.func7, Try.ntmps7
 go_upto_region 1 with (first | ((with_reducible refine gate_dst (N := 3) rfl ?_); (try (refine gate_guard (by rfl) ?_; dsimp only)); refine box_event ?hg (N := 3) ?hd (cs := #[.int .i64 a0_0, .int .i64 a0_1, .int .i64 a0_2, .slice A0_3 l0_3.length c0_3]) (t := 24) ?hr ?_; (case hd => rfl); (case hg => rfl); (case hr => first | (go_simp; done) | (go_simp; rfl)); intro gb307 hg w5 hbox hb; have n0_ := Aside0.mk (below_step (by repeat (first | (with_reducible first | exact HB.out | apply below_alloc | apply pw_below_drewN | apply below_drew1) | exact HB.out)) hb); have n1_ := Aside0.mk (hbox); have n2_ := Aside0.mk ((by rw [hg]; exact (below_size (by repeat (first | (with_reducible first | exact HB.out | apply below_alloc | apply pw_below_drewN | apply below_drew1) | exact HB.out))) : w.heap.size ≤ gb307)); have n3_ := Aside0.mk ((by rw [hg]; exact (below_size (by repeat (first | (with_reducible first | exact HB.out | apply below_alloc | apply pw_below_drewN | apply below_drew1) | exact HB.out))) : w.heap.size ≤ gb307)); clear HB; have HB := n0_; have BK307 := n1_; have GW307 := n2_; have GE307 := n3_; clear n0_ n1_ n2_ n3_; clear hb hbox hg))
 (try simp only [Act.put, List.setIfInBounds_toArray, List.set_cons_zero, List.set_cons_succ])
 go_cut [38] (fun v38 wc => ∃ (kq : Nat) (x38_3 : Bool), v38 = .bool x38_3 ∧ Aside0 (offertorylaw13_StatsTimes.j0 kq l1 a2 x38_3 a0_0 a0_1 a0_2 l0_3 = some r) ∧ Aside0 (kq ≤ k) ∧ Aside0 (wc.heap[gb307]? = some (.cells #[.int .i64 a0_0, .int .i64 a0_1, .int .i64 a0_2, (.slice A0_3 l0_3.length c0_3)] 24 (0, 0))) ∧ Aside0 (Below w.heap.size w wc))
 case first =>
  have H := HC4.out
  clear HC4
  replace H := Option.bind_eq_some_iff.mp H
  obtain ⟨t308, A60, H⟩ := H
  replace H : (if t308 = 0 then (if (l1.length : Int) = 0 then (offertorylaw13_StatsTimes.j0 k l1 a2 true a0_0 a0_1 a0_2 l0_3) else (if (l1.length : Int) > 60 then (offertorylaw13_StatsTimes.j0 k l1 a2 true a0_0 a0_1 a0_2 l0_3) else (if a2 = 0 then (offertorylaw13_StatsTimes.j0 k l1 a2 true a0_0 a0_1 a0_2 l0_3) else (offertorylaw13_StatsTimes.j0 k l1 a2 (decide ((IntKind.u64.wrap ((IntKind.u64.wrap (a2)) * (IntKind.u64.wrap ((l1.length : Int))))) ≥ 4294967296)) a0_0 a0_1 a0_2 l0_3)))) else (offertorylaw13_StatsTimes.j0 k l1 a2 true a0_0 a0_1 a0_2 l0_3)) = some r := H
  have A6 := Aside0.mk A60
  clear A60
  by_cases c7 : t308 = 0
  ·
   rw [if_pos c7] at H
   have c7b0 : (t308 == 0) = true := beq_iff_eq.mpr c7
   have c7b1 : (t308 != 0) = false := bne_eq_false_iff_eq.mpr c7
   clear c7
   (first | rw [c7b0] | (simp only [i64_w, i32_w]; rw [c7b0]) | skip)
   by_cases c8 : (l1.length : Int) = 0
   ·
    rw [if_pos c8] at H
    have c8b0 : ((l1.length : Int) == 0) = true := beq_iff_eq.mpr c8
    have c8b1 : ((l1.length : Int) != 0) = false := bne_eq_false_iff_eq.mpr c8
    clear c8
    have H' := Aside0.mk H
    clear H
    have hcz9_0 : w5.cell? ⟨gb307, 0, none⟩ = some (.int .i64 a0_0) := (blk_cell BK307.out 0).trans rfl
    have hcz9_1 : w5.cell? ⟨gb307, 1, none⟩ = some (.int .i64 a0_1) := (blk_cell BK307.out 1).trans rfl
    have hcz9_2 : w5.cell? ⟨gb307, 2, none⟩ = some (.int .i64 a0_2) := (blk_cell BK307.out 2).trans rfl
    have hcz9_3 : w5.cell? ⟨gb307, 3, none⟩ = some (.slice A0_3 l0_3.length c0_3) := (blk_cell BK307.out 3).trans rfl
    have hfz9_0 := blk_frozen BK307.out 0
    have hfz9_1 := blk_frozen BK307.out 1
    have hfz9_2 := blk_frozen BK307.out 2
    have hfz9_3 := blk_frozen BK307.out 3
    go_wp2_with (first | ((with_reducible refine gate_callee (f := 9) rfl ?_); refine goesL_ (some 14) rfl rfl Try.func9 (by kernel_rfl) rfl #[.agg #[.int .i64 a0_0, .int .i64 a0_1, .int .i64 a0_2, .slice A0_3 l0_3.length c0_3]] rfl (by (try simp only [List.map_toArray, List.map_cons, List.map_nil]); first | done | rfl | (simp only [List.length_drop, List.length_take]; rfl)) ?_; (with_reducible refine (offertoryref09_Sound.calls k a0_0 a0_1 a0_2 _ _ l0_3 t308 _ ?side1 ?side2 A6.out).mono ?_); (case side1 => repeat (first | exact (Kd.C_below HR0_3.out HB.out) | (with_reducible refine Kd.C_alloc ?_ _) | (with_reducible refine Kd.C_drewN ?_ _) | (with_reducible refine Kd.C_drew ?_))); (case side2 => exact HC0_3.out); rintro e w10 ⟨rfl, hb⟩; refine ⟨_, rfl, ?_⟩; have n0_ := offertorylaw13_StatsTimes.keepB BK307 hb; have n1_ := Aside0.mk (below_step (by repeat (first | (with_reducible first | exact HB.out | apply below_alloc | apply pw_below_drewN | apply below_drew1 | refine below_set ?_ GE307.out) | exact HB.out)) hb); clear BK307; clear HB; have BK307 := n0_; have HB := n1_; clear n0_ n1_; (try clear hb); (try clear hb2); (try clear hk); (try clear hi)))
    go_meet
    case rel => exact ⟨_, (true), (by first | rfl | (simp; done) | (simp [*]; done)), H', ⟨by first | omega | exact Nat.le_refl _⟩, ⟨by (with_reducible repeat (first | refine blk_drewN ?_ _ | refine blk_drew ?_ | refine blk_alloc ?_ _)); exact BK307.out⟩, ⟨by repeat (first | (with_reducible first | exact HB.out | apply below_alloc | apply pw_below_drewN | apply below_drew1 | refine below_set ?_ GE307.out) | exact HB.out)⟩⟩
   ·
    rw [if_neg c8] at H
    have c8b0 : ((l1.length : Int) == 0) = false := beq_eq_false_iff_ne.mpr c8
    have c8b1 : ((l1.length : Int) != 0) = true := bne_iff_ne.mpr c8
    have c8b2 : ¬ (l1 = []) := fun h_ => c8 (by rw [h_]; rfl)
    by_cases c11 : (l1.length : Int) > 60
    ·
     rw [if_pos c11] at H
     have c11b0 : decide (60 < (l1.length : Int)) = true := decide_eq_true c11
     have c11b1 : decide (60 < l1.length) = true := decide_eq_true (by omega)
     clear c11
     have H' := Aside0.mk H
     clear H
     have hcz12_0 : w5.cell? ⟨gb307, 0, none⟩ = some (.int .i64 a0_0) := (blk_cell BK307.out 0).trans rfl
     have hcz12_1 : w5.cell? ⟨gb307, 1, none⟩ = some (.int .i64 a0_1) := (blk_cell BK307.out 1).trans rfl
     have hcz12_2 : w5.cell? ⟨gb307, 2, none⟩ = some (.int .i64 a0_2) := (blk_cell BK307.out 2).trans rfl
     have hcz12_3 : w5.cell? ⟨gb307, 3, none⟩ = some (.slice A0_3 l0_3.length c0_3) := (blk_cell BK307.out 3).trans rfl
     have hfz12_0 := blk_frozen BK307.out 0
     have hfz12_1 := blk_frozen BK307.out 1
     have hfz12_2 := blk_frozen BK307.out 2
     have hfz12_3 := blk_frozen BK307.out 3
     go_wp2_with (first | ((with_reducible refine gate_callee (f := 9) rfl ?_); refine goesL_ (some 14) rfl rfl Try.func9 (by kernel_rfl) rfl #[.agg #[.int .i64 a0_0, .int .i64 a0_1, .int .i64 a0_2, .slice A0_3 l0_3.length c0_3]] rfl (by (try simp only [List.map_toArray, List.map_cons, List.map_nil]); first | done | rfl | (simp only [List.length_drop, List.length_take]; rfl)) ?_; (with_reducible refine (offertoryref09_Sound.calls k a0_0 a0_1 a0_2 _ _ l0_3 t308 _ ?side1 ?side2 A6.out).mono ?_); (case side1 => repeat (first | exact (Kd.C_below HR0_3.out HB.out) | (with_reducible refine Kd.C_alloc ?_ _) | (with_reducible refine Kd.C_drewN ?_ _) | (with_reducible refine Kd.C_drew ?_))); (case side2 => exact HC0_3.out); rintro e w13 ⟨rfl, hb⟩; refine ⟨_, rfl, ?_⟩; have n0_ := offertorylaw13_StatsTimes.keepB BK307 hb; have n1_ := Aside0.mk (below_step (by repeat (first | (with_reducible first | exact HB.out | apply below_alloc | apply pw_below_drewN | apply below_drew1 | refine below_set ?_ GE307.out) | exact HB.out)) hb); clear BK307; clear HB; have BK307 := n0_; have HB := n1_; clear n0_ n1_; (try clear hb); (try clear hb2); (try clear hk); (try clear hi)))
     go_meet
     case rel => exact ⟨_, (true), (by first | rfl | (simp; done) | (simp [*]; done)), H', ⟨by first | omega | exact Nat.le_refl _⟩, ⟨by (with_reducible repeat (first | refine blk_drewN ?_ _ | refine blk_drew ?_ | refine blk_alloc ?_ _)); exact BK307.out⟩, ⟨by repeat (first | (with_reducible first | exact HB.out | apply below_alloc | apply pw_below_drewN | apply below_drew1 | refine below_set ?_ GE307.out) | exact HB.out)⟩⟩
    ·
     rw [if_neg c11] at H
     have c11b0 : decide (60 < (l1.length : Int)) = false := decide_eq_false c11
     have c11b1 : decide (60 < l1.length) = false := decide_eq_false (by omega)
     clear c11
     by_cases c14 : a2 = 0
     ·
      rw [if_pos c14] at H
      have c14b0 : (a2 == 0) = true := beq_iff_eq.mpr c14
      have c14b1 : (a2 != 0) = false := bne_eq_false_iff_eq.mpr c14
      clear c14
      have H' := Aside0.mk H
      clear H
      have hcz15_0 : w5.cell? ⟨gb307, 0, none⟩ = some (.int .i64 a0_0) := (blk_cell BK307.out 0).trans rfl
      have hcz15_1 : w5.cell? ⟨gb307, 1, none⟩ = some (.int .i64 a0_1) := (blk_cell BK307.out 1).trans rfl
      have hcz15_2 : w5.cell? ⟨gb307, 2, none⟩ = some (.int .i64 a0_2) := (blk_cell BK307.out 2).trans rfl
      have hcz15_3 : w5.cell? ⟨gb307, 3, none⟩ = some (.slice A0_3 l0_3.length c0_3) := (blk_cell BK307.out 3).trans rfl
      have hfz15_0 := blk_frozen BK307.out 0
      have hfz15_1 := blk_frozen BK307.out 1
      have hfz15_2 := blk_frozen BK307.out 2
      have hfz15_3 := blk_frozen BK307.out 3
      go_wp2_with (first | ((with_reducible refine gate_callee (f := 9) rfl ?_); refine goesL_ (some 14) rfl rfl Try.func9 (by kernel_rfl) rfl #[.agg #[.int .i64 a0_0, .int .i64 a0_1, .int .i64 a0_2, .slice A0_3 l0_3.length c0_3]] rfl (by (try simp only [List.map_toArray, List.map_cons, List.map_nil]); first | done | rfl | (simp only [List.length_drop, List.length_take]; rfl)) ?_; (with_reducible refine (offertoryref09_Sound.calls k a0_0 a0_1 a0_2 _ _ l0_3 t308 _ ?side1 ?side2 A6.out).mono ?_); (case side1 => repeat (first | exact (Kd.C_below HR0_3.out HB.out) | (with_reducible refine Kd.C_alloc ?_ _) | (with_reducible refine Kd.C_drewN ?_ _) | (with_reducible refine Kd.C_drew ?_))); (case side2 => exact HC0_3.out); rintro e w16 ⟨rfl, hb⟩; refine ⟨_, rfl, ?_⟩; have n0_ := offertorylaw13_StatsTimes.keepB BK307 hb; have n1_ := Aside0.mk (below_step (by repeat (first | (with_reducible first | exact HB.out | apply below_alloc | apply pw_below_drewN | apply below_drew1 | refine below_set ?_ GE307.out) | exact HB.out)) hb); clear BK307; clear HB; have BK307 := n0_; have HB := n1_; clear n0_ n1_; (try clear hb); (try clear hb2); (try clear hk); (try clear hi)))
      go_meet
      case rel => exact ⟨_, (true), (by first | rfl | (simp; done) | (simp [*]; done)), H', ⟨by first | omega | exact Nat.le_refl _⟩, ⟨by (with_reducible repeat (first | refine blk_drewN ?_ _ | refine blk_drew ?_ | refine blk_alloc ?_ _)); exact BK307.out⟩, ⟨by repeat (first | (with_reducible first | exact HB.out | apply below_alloc | apply pw_below_drewN | apply below_drew1 | refine below_set ?_ GE307.out) | exact HB.out)⟩⟩
     ·
      rw [if_neg c14] at H
      have c14b0 : (a2 == 0) = false := beq_eq_false_iff_ne.mpr c14
      have c14b1 : (a2 != 0) = true := bne_iff_ne.mpr c14
      have H' := Aside0.mk H
      clear H
      have hcz17_0 : w5.cell? ⟨gb307, 0, none⟩ = some (.int .i64 a0_0) := (blk_cell BK307.out 0).trans rfl
      have hcz17_1 : w5.cell? ⟨gb307, 1, none⟩ = some (.int .i64 a0_1) := (blk_cell BK307.out 1).trans rfl
      have hcz17_2 : w5.cell? ⟨gb307, 2, none⟩ = some (.int .i64 a0_2) := (blk_cell BK307.out 2).trans rfl
      have hcz17_3 : w5.cell? ⟨gb307, 3, none⟩ = some (.slice A0_3 l0_3.length c0_3) := (blk_cell BK307.out 3).trans rfl
      have hfz17_0 := blk_frozen BK307.out 0
      have hfz17_1 := blk_frozen BK307.out 1
      have hfz17_2 := blk_frozen BK307.out 2
      have hfz17_3 := blk_frozen BK307.out 3
      go_wp2_with (first | ((with_reducible refine gate_callee (f := 9) rfl ?_); refine goesL_ (some 14) rfl rfl Try.func9 (by kernel_rfl) rfl #[.agg #[.int .i64 a0_0, .int .i64 a0_1, .int .i64 a0_2, .slice A0_3 l0_3.length c0_3]] rfl (by (try simp only [List.map_toArray, List.map_cons, List.map_nil]); first | done | rfl | (simp only [List.length_drop, List.length_take]; rfl)) ?_; (with_reducible refine (offertoryref09_Sound.calls k a0_0 a0_1 a0_2 _ _ l0_3 t308 _ ?side1 ?side2 A6.out).mono ?_); (case side1 => repeat (first | exact (Kd.C_below HR0_3.out HB.out) | (with_reducible refine Kd.C_alloc ?_ _) | (with_reducible refine Kd.C_drewN ?_ _) | (with_reducible refine Kd.C_drew ?_))); (case side2 => exact HC0_3.out); rintro e w18 ⟨rfl, hb⟩; refine ⟨_, rfl, ?_⟩; have n0_ := offertorylaw13_StatsTimes.keepB BK307 hb; have n1_ := Aside0.mk (below_step (by repeat (first | (with_reducible first | exact HB.out | apply below_alloc | apply pw_below_drewN | apply below_drew1 | refine below_set ?_ GE307.out) | exact HB.out)) hb); clear BK307; clear HB; have BK307 := n0_; have HB := n1_; clear n0_ n1_; (try clear hb); (try clear hb2); (try clear hk); (try clear hi)))
      go_meet
      case rel => exact ⟨_, (decide ((IntKind.u64.wrap ((IntKind.u64.wrap (a2)) * (IntKind.u64.wrap ((l1.length : Int))))) ≥ 4294967296)), (by first | rfl | (simp; done) | (simp [*]; done)), H', ⟨by first | omega | exact Nat.le_refl _⟩, ⟨by (with_reducible repeat (first | refine blk_drewN ?_ _ | refine blk_drew ?_ | refine blk_alloc ?_ _)); exact BK307.out⟩, ⟨by repeat (first | (with_reducible first | exact HB.out | apply below_alloc | apply pw_below_drewN | apply below_drew1 | refine below_set ?_ GE307.out) | exact HB.out)⟩⟩
  ·
   rw [if_neg c7] at H
   have c7b0 : (t308 == 0) = false := beq_eq_false_iff_ne.mpr c7
   have c7b1 : (t308 != 0) = true := bne_iff_ne.mpr c7
   (first | rw [c7b0] | (simp only [i64_w, i32_w]; rw [c7b0]) | skip)
   have H' := Aside0.mk H
   clear H
   have hcz19_0 : w5.cell? ⟨gb307, 0, none⟩ = some (.int .i64 a0_0) := (blk_cell BK307.out 0).trans rfl
   have hcz19_1 : w5.cell? ⟨gb307, 1, none⟩ = some (.int .i64 a0_1) := (blk_cell BK307.out 1).trans rfl
   have hcz19_2 : w5.cell? ⟨gb307, 2, none⟩ = some (.int .i64 a0_2) := (blk_cell BK307.out 2).trans rfl
   have hcz19_3 : w5.cell? ⟨gb307, 3, none⟩ = some (.slice A0_3 l0_3.length c0_3) := (blk_cell BK307.out 3).trans rfl
   have hfz19_0 := blk_frozen BK307.out 0
   have hfz19_1 := blk_frozen BK307.out 1
   have hfz19_2 := blk_frozen BK307.out 2
   have hfz19_3 := blk_frozen BK307.out 3
   go_wp2_with (first | ((with_reducible refine gate_callee (f := 9) rfl ?_); refine goesL_ (some 14) rfl rfl Try.func9 (by kernel_rfl) rfl #[.agg #[.int .i64 a0_0, .int .i64 a0_1, .int .i64 a0_2, .slice A0_3 l0_3.length c0_3]] rfl (by (try simp only [List.map_toArray, List.map_cons, List.map_nil]); first | done | rfl | (simp only [List.length_drop, List.length_take]; rfl)) ?_; (with_reducible refine (offertoryref09_Sound.calls k a0_0 a0_1 a0_2 _ _ l0_3 t308 _ ?side1 ?side2 A6.out).mono ?_); (case side1 => repeat (first | exact (Kd.C_below HR0_3.out HB.out) | (with_reducible refine Kd.C_alloc ?_ _) | (with_reducible refine Kd.C_drewN ?_ _) | (with_reducible refine Kd.C_drew ?_))); (case side2 => exact HC0_3.out); rintro e w20 ⟨rfl, hb⟩; refine ⟨_, rfl, ?_⟩; have n0_ := offertorylaw13_StatsTimes.keepB BK307 hb; have n1_ := Aside0.mk (below_step (by repeat (first | (with_reducible first | exact HB.out | apply below_alloc | apply pw_below_drewN | apply below_drew1 | refine below_set ?_ GE307.out) | exact HB.out)) hb); clear BK307; clear HB; have BK307 := n0_; have HB := n1_; clear n0_ n1_; (try clear hb); (try clear hb2); (try clear hk); (try clear hi)))
   go_meet
   case rel => exact ⟨_, (true), (by first | rfl | (simp; done) | (simp [*]; done)), H', ⟨by first | omega | exact Nat.le_refl _⟩, ⟨by (with_reducible repeat (first | refine blk_drewN ?_ _ | refine blk_drew ?_ | refine blk_alloc ?_ _)); exact BK307.out⟩, ⟨by repeat (first | (with_reducible first | exact HB.out | apply below_alloc | apply pw_below_drewN | apply below_drew1 | refine below_set ?_ GE307.out) | exact HB.out)⟩⟩
 case rest =>
  clear HC4
  try clear c1
  try clear p2
  try clear c7
  try clear c7b0
  try clear c7b1
  try clear c8
  try clear c8b0
  try clear c8b1
  try clear c8b2
  try clear c9
  try clear c11
  try clear c11b0
  try clear c11b1
  try clear c14
  try clear c14b0
  try clear c14b1
  try clear hcz12_0
  try clear hcz12_1
  try clear hcz12_2
  try clear hcz12_3
  try clear hcz15_0
  try clear hcz15_1
  try clear hcz15_2
  try clear hcz15_3
  try clear hcz17_0
  try clear hcz17_1
  try clear hcz17_2
  try clear hcz17_3
  try clear hcz19_0
  try clear hcz19_1
  try clear hcz19_2
  try clear hcz19_3
  try clear hcz9_0
  try clear hcz9_1
  try clear hcz9_2
  try clear hcz9_3
  try clear hfz12_0
  try clear hfz12_1
  try clear hfz12_2
  try clear hfz12_3
  try clear hfz15_0
  try clear hfz15_1
  try clear hfz15_2
  try clear hfz15_3
  try clear hfz17_0
  try clear hfz17_1
  try clear hfz17_2
  try clear hfz17_3
  try clear hfz19_0
  try clear hfz19_1
  try clear hfz19_2
  try clear hfz19_3
  try clear hfz9_0
  try clear hfz9_1
  try clear hfz9_2
  try clear hfz9_3
  obtain ⟨kq, x38_3, rfl, HA, HJ3, BK307, HB⟩ := hcut
  cases kq with
  | zero => exact absurd HA.out (by simp [offertorylaw13_StatsTimes.j0])
  | succ kj3 =>
   have H := HA.out
   clear HA
   simp only [offertorylaw13_StatsTimes.j0] at H
   by_cases c21 : x38_3 = true
   ·
    subst c21
    have H1 : ((offertorylaw13_awake.f kj3).bind fun t309 => (some t309)) = some r := by rw [if_pos rfl] at H; exact H
    clear H
    have H := H1
    clear H1
    replace H := Option.bind_eq_some_iff.mp H
    obtain ⟨t309, A220, H⟩ := H
    replace H : (some t309) = some r := H
    have A22 := Aside0.mk A220
    clear A220
    obtain rfl := Option.some.inj H
    go_wp2_with (first | ((with_reducible refine gate_callee (f := 10) rfl ?_); refine goesL_ (some 39) rfl rfl Try.func10 (by kernel_rfl) rfl #[] rfl (by (try simp only [List.map_toArray, List.map_cons, List.map_nil]); first | done | rfl | (simp only [List.length_drop, List.length_take]; rfl)) ?_; (with_reducible refine (offertorylaw13_awake.calls kj3  t309 _ A22.out).mono ?_); rintro e w23 ⟨rfl, hb⟩; refine ⟨_, rfl, ?_⟩; have n0_ := offertorylaw13_StatsTimes.keepB BK307 hb; have n1_ := Aside0.mk (below_step (by repeat (first | (with_reducible first | exact HB.out | apply below_alloc | apply pw_below_drewN | apply below_drew1 | refine below_set ?_ GE307.out) | exact HB.out)) hb); clear BK307; clear HB; have BK307 := n0_; have HB := n1_; clear n0_ n1_; (try clear hb); (try clear hb2); (try clear hk); (try clear hi)))
    go_ret
    exact ⟨by first | rfl | (simp [errW_none, errW_some] <;> rfl) | (simp [*, errW_none, errW_some] <;> rfl), by repeat (first | (with_reducible first | exact HB.out | apply below_alloc | apply pw_below_drewN | apply below_drew1 | refine below_set ?_ GE307.out) | exact HB.out)⟩
   ·
    replace c21 := Bool.eq_false_iff.mpr c21
    subst c21
    have H1 : ((offertoryref09_Encode.f kj3 a0_0 a0_1 a0_2 l0_3 l1).bind fun t310 => (offertorylaw13_StatsTimes.l0 kj3 l1 a2 t310 0 a0_0 a0_1 a0_2 l0_3)) = some r := by rw [if_neg (show ¬ (false = true) by decide)] at H; exact H
    clear H
    have H := H1
    clear H1
    replace H := Option.bind_eq_some_iff.mp H
    obtain ⟨t310, A240, H⟩ := H
    replace H : (offertorylaw13_StatsTimes.l0 kj3 l1 a2 t310 0 a0_0 a0_1 a0_2 l0_3) = some r := H
    have A24 := Aside0.mk A240
    clear A240
    have H' := Aside0.mk H
    clear H
    have hcz25_0 : wc.cell? ⟨gb307, 0, none⟩ = some (.int .i64 a0_0) := (blk_cell BK307.out 0).trans rfl
    have hcz25_1 : wc.cell? ⟨gb307, 1, none⟩ = some (.int .i64 a0_1) := (blk_cell BK307.out 1).trans rfl
    have hcz25_2 : wc.cell? ⟨gb307, 2, none⟩ = some (.int .i64 a0_2) := (blk_cell BK307.out 2).trans rfl
    have hcz25_3 : wc.cell? ⟨gb307, 3, none⟩ = some (.slice A0_3 l0_3.length c0_3) := (blk_cell BK307.out 3).trans rfl
    have hfz25_0 := blk_frozen BK307.out 0
    have hfz25_1 := blk_frozen BK307.out 1
    have hfz25_2 := blk_frozen BK307.out 2
    have hfz25_3 := blk_frozen BK307.out 3
    go_wp2_with (first | ((with_reducible refine gate_callee (f := 16) rfl ?_); refine goesL_ (some 42) rfl rfl Try.func16 (by kernel_rfl) rfl #[.agg #[.int .i64 a0_0, .int .i64 a0_1, .int .i64 a0_2, .slice A0_3 l0_3.length c0_3], .slice A1 l1.length c1] rfl (by (try simp only [List.map_toArray, List.map_cons, List.map_nil]); first | done | rfl | (simp only [List.length_drop, List.length_take]; rfl)) ?_; (with_reducible refine (offertoryref09_Encode.calls kj3 a0_0 a0_1 a0_2 _ _ l0_3 _ _ l1 t310 _ ?side1 ?side2 ?side3 ?side4 A24.out).mono ?_); (case side1 => repeat (first | exact (Kd.C_below HR0_3.out HB.out) | (with_reducible refine Kd.C_alloc ?_ _) | (with_reducible refine Kd.C_drewN ?_ _) | (with_reducible refine Kd.C_drew ?_))); (case side2 => exact HC0_3.out); (case side3 => repeat (first | exact (Kd.C_below HR1.out HB.out) | (with_reducible refine Kd.C_alloc ?_ _) | (with_reducible refine Kd.C_drewN ?_ _) | (with_reducible refine Kd.C_drew ?_))); (case side4 => exact HC1.out); rintro e w26 ⟨v311, rfl, ho0, hb⟩; refine ⟨_, rfl, ?_⟩; have n0_ := Aside0.mk (Kd.R_lower ho0 (below_size (by repeat (first | (with_reducible first | exact HB.out | apply below_alloc | apply pw_below_drewN | apply below_drew1 | refine below_set ?_ GE307.out) | exact HB.out)))); have n1_ := offertorylaw13_StatsTimes.keepB BK307 hb; have n2_ := Aside0.mk (below_step (by repeat (first | (with_reducible first | exact HB.out | apply below_alloc | apply pw_below_drewN | apply below_drew1 | refine below_set ?_ GE307.out) | exact HB.out)) hb); clear BK307; clear HB; have HO312 := n0_; have BK307 := n1_; have HB := n2_; clear n0_ n1_ n2_; (try clear hb); (try clear hb2); (try clear hk); (try clear hi); (try clear ho0)))
    go_loopg [8] kj3 (fun kq v8 w' => ∃ (x7_2 : List Int) (x8_2 : Int), v8 = .int .i64 x8_2 ∧ Aside0 (offertorylaw13_StatsTimes.l0 kq l1 a2 x7_2 x8_2 a0_0 a0_1 a0_2 l0_3 = some r) ∧ Aside0 (kq ≤ kj3) ∧ Aside0 (Kd.R (Kd.int .u32) 43 w' w.heap.size (fun _ => True) v311 x7_2) ∧ Aside0 (w'.heap[gb307]? = some (.cells #[.int .i64 a0_0, .int .i64 a0_1, .int .i64 a0_2, (.slice A0_3 l0_3.length c0_3)] 24 (0, 0))) ∧ Aside0 (Below w.heap.size w w'))
    case atStart => exact ⟨(t310), (0), (by first | rfl | (simp; done) | (simp [*]; done)), H', ⟨Nat.le_refl _⟩, ⟨by (with_reducible repeat (first | apply Kd.R_alloc | apply Kd.R_drewN | apply Kd.R_drew)); exact HO312.out⟩, ⟨by (with_reducible repeat (first | refine blk_drewN ?_ _ | refine blk_drew ?_ | refine blk_alloc ?_ _)); exact BK307.out⟩, ⟨by repeat (first | (with_reducible first | exact HB.out | apply below_alloc | apply pw_below_drewN | apply below_drew1 | refine below_set ?_ GE307.out) | exact HB.out)⟩⟩
    case round =>
     clear H'
     try clear c1
     try clear c2
     try clear p2
     try clear c7
     try clear c7b0
     try clear c7b1
     try clear c8
     try clear c8b0
     try clear c8b1
     try clear c8b2
     try clear c9
     try clear c10
     try clear c11
     try clear c11b0
     try clear c11b1
     try clear c14
     try clear c14b0
     try clear c14b1
     try clear c16
     try clear c21
     try clear hcz12_0
     try clear hcz12_1
     try clear hcz12_2
     try clear hcz12_3
     try clear hcz15_0
     try clear hcz15_1
     try clear hcz15_2
     try clear hcz15_3
     try clear hcz17_0
     try clear hcz17_1
     try clear hcz17_2
     try clear hcz17_3
     try clear hcz19_0
     try clear hcz19_1
     try clear hcz19_2
     try clear hcz19_3
     try clear hcz25_0
     try clear hcz25_1
     try clear hcz25_2
     try clear hcz25_3
     try clear hcz9_0
     try clear hcz9_1
     try clear hcz9_2
     try clear hcz9_3
     try clear hfz12_0
     try clear hfz12_1
     try clear hfz12_2
     try clear hfz12_3
     try clear hfz15_0
     try clear hfz15_1
     try clear hfz15_2
     try clear hfz15_3
     try clear hfz17_0
     try clear hfz17_1
     try clear hfz17_2
     try clear hfz17_3
     try clear hfz19_0
     try clear hfz19_1
     try clear hfz19_2
     try clear hfz19_3
     try clear hfz25_0
     try clear hfz25_1
     try clear hfz25_2
     try clear hfz25_3
     try clear hfz9_0
     try clear hfz9_1
     try clear hfz9_2
     try clear hfz9_3
     try clear p2
     obtain ⟨x7_2, x8_2, rfl, HA, HK2, HO_7, BK307, HB⟩ := hrel
     cases gk with
     | zero => exact absurd HA.out (by simp [offertorylaw13_StatsTimes.l0])
     | succ k2 =>
      have H := HA.out
      clear HA
      simp only [offertorylaw13_StatsTimes.l0] at H
      by_cases c27 : x8_2 < (x7_2.length : Int)
      ·
       rw [if_pos c27] at H
       have c27b0 : decide (x8_2 < (x7_2.length : Int)) = true := decide_eq_true c27
       clear c27
       by_cases c28 : 0 ≤ x8_2
       ·
        rw [if_pos c28] at H
        have c28b0 : decide (0 ≤ x8_2) = true := decide_eq_true c28
        clear c28
        obtain ⟨y314, hy314⟩ : ∃ y_ : List Int, y_ = (x7_2.set (x8_2 : Int).toNat (((rd x7_2 x8_2) * a2) % 4294967296)) := ⟨_, rfl⟩
        replace H : (offertorylaw13_StatsTimes.l0 k2 l1 a2 y314 (wrap64 (x8_2 + 1)) a0_0 a0_1 a0_2 l0_3) = some r := by first | (rw [hy314]; with_reducible exact H) | (have H2_ := (Option.bind_some _ _).symm.trans H; rw [hy314]; with_reducible exact H2_) | (have H2_ := (Option.bind_some _ _).symm.trans H; with_reducible exact H2_) | with_reducible exact H | (rw [hy314]; exact H) | exact H
        have Ny314 := Aside0.mk hy314
        clear hy314
        have H' := Aside0.mk H
        clear H
        obtain ⟨Ao30, co30, eo30⟩ := Kd.R_slice HO_7.out
        subst eo30
        have p313 : 0 ≤ (x8_2 : Int) := of_decide_eq_true (by first | (with_reducible assumption) | assumption)
        have q313 : x8_2 < (x7_2.length : Int) := of_decide_eq_true (by first | (with_reducible assumption) | assumption)
        obtain ⟨ad313, e313, hx313_0⟩ := Kd.at_int (Kd.R_reads' HO_7.out).2.2 x8_2 p313 q313
        cases e313
        replace p313 := eq_true p313
        replace q313 := eq_true q313
        have p29 : 0 ≤ (x8_2 : Int) := of_decide_eq_true (by first | (with_reducible assumption) | assumption)
        have q29 : (x8_2 : Int) < ((x7_2.length : Int) : Int) := of_decide_eq_true (by first | (with_reducible assumption) | assumption)
        obtain ⟨go29, co29, eo29, gb29, gl29, cl29, HG29⟩ := Kd.R_form HO_7.out (by omega)
        (first | cases eo29 | (injection eo29 with ea_ en_ ec_; (first | subst ea_ | (injection ea_ with ea_; subst ea_)); subst ec_; clear en_))
        have GB29 := Aside0.mk gb29
        have GG29 := Aside0.mk HG29
        clear gb29 gl29 HG29
        (first | simp only [add_plain] at hx313_0 | skip)
        obtain ⟨hx29_0, hf29_0⟩ := Kd.R_celln 0 HO_7.out (x8_2 : Int) p29 q29
        replace p29 := eq_true p29
        replace q29 := eq_true q29
        have HP31 := Kd.R_putg HO_7.out (x8_2 : Int) (((rd x7_2 x8_2) * a2) % 4294967296)
        go_wp2_with (first | ((with_reducible refine gate_store (t := 43) (p := 55) rfl ?_); refine store_event (t := 43) (p := 55) (v := ?vo_w32) (w1 := (wr.setCell ⟨go29, (x8_2 : Int).toNat, none⟩ (.int .u32 (((rd x7_2 x8_2) * a2) % 4294967296)))) ?hg ?ho ?hn ?hr ?_; (case ho => rfl); (case hg => rfl); (case hn => rfl); (case hr => first | (go_simp; done) | (go_simp; rfl)); intro w32 hw; have hg : wr.grownBy w32 (some go29) := (by rw [hw]; exact HP31.2); have hp_ : Kd.R (Kd.int .u32) 43 w32 w.heap.size (fun _ => True) (.slice (some ⟨go29, 0, none⟩) x7_2.length co30) y314 := (by rw [hw, Ny314.out]; exact HP31.1); clear HP31; have n0_ := Aside0.mk (hp_); have n1_ := Aside0.mk (blk_grown (g := gb307) (o := .cells #[.int .i64 a0_0, .int .i64 a0_1, .int .i64 a0_2, .slice A0_3 l0_3.length c0_3] 24 (0, 0)) (by (with_reducible repeat (first | refine blk_drewN ?_ _ | refine blk_drew ?_ | refine blk_alloc ?_ _)); exact BK307.out) hg (Kd.R_ne HO_7.out BK307.out (by decide))); have n2_ := Aside0.mk ((by rw [hw]; exact below_set (HB.out) GB29.out : Below w.heap.size w w32)); clear HO_7; clear BK307; clear HB; have HO_7 := n0_; have BK307 := n1_; have HB := n2_; clear n0_ n1_ n2_; clear hg hw hp_))
        go_roundg k2
        case measure => have := HJ3.out; have := HK2.out; omega
        case rel => exact ⟨(y314), (wrap64 (x8_2 + 1)), (by first | rfl | (simp; done) | (simp [*]; done)), H', ⟨by have := HJ3.out; have := HK2.out; omega⟩, ⟨by (with_reducible repeat (first | apply Kd.R_alloc | apply Kd.R_drewN | apply Kd.R_drew)); exact HO_7.out⟩, ⟨by (with_reducible repeat (first | refine blk_drewN ?_ _ | refine blk_drew ?_ | refine blk_alloc ?_ _)); exact BK307.out⟩, ⟨by repeat (first | (with_reducible first | exact HB.out | apply below_alloc | apply pw_below_drewN | apply below_drew1 | refine below_set ?_ GE307.out) | exact HB.out)⟩⟩
       ·
        rw [if_neg c28] at H
        exact absurd H (by simp)
      ·
       rw [if_neg c27] at H
       have c27b0 : decide (x8_2 < (x7_2.length : Int)) = false := decide_eq_false c27
       clear c27
       replace H := Option.bind_eq_some_iff.mp H
       obtain ⟨⟨t315, t318, t319, t320, t321, t322, t323, t324⟩, A330, H⟩ := H
       replace H : ((offertoryref09_Stats.f k2 a0_0 a0_1 a0_2 l0_3 l1).bind fun bt326 => ((offertoryref09_Of.f 0 (IntKind.u64.wrap (a2))).bind fun bt336 => ((offertorylaw13_awake.f k2).bind fun t345 => (if t345 = true then (if t324 = 0 then (if t318 = (wrap64 ((l1.length : Int) * (wrap64 (a2)))) then ((offertoryref09_Of.f bt326.2.2.1 bt326.2.2.2.1).bind fun bt346 => ((offertoryref09_Mul.f bt346.1 bt346.2.1 bt346.2.2.1 bt346.2.2.2.1 bt346.2.2.2.2.1 bt346.2.2.2.2.2.1 bt346.2.2.2.2.2.2.1 bt346.2.2.2.2.2.2.2 bt336.1 bt336.2.1 bt336.2.2.1 bt336.2.2.2.1 bt336.2.2.2.2.1 bt336.2.2.2.2.2.1 bt336.2.2.2.2.2.2.1 bt336.2.2.2.2.2.2.2).bind fun bt354 => ((offertoryref09_Big_Wide.f bt354.1 bt354.2.1 bt354.2.2.1 bt354.2.2.2.1 bt354.2.2.2.2.1 bt354.2.2.2.2.2.1 bt354.2.2.2.2.2.2.1 bt354.2.2.2.2.2.2.2).bind fun bt362 => (if (t319 == bt362.1 && (t320 == bt362.2)) = true then ((offertoryref09_Of.f bt326.2.2.2.2.1 bt326.2.2.2.2.2.1).bind fun bt364 => ((offertoryref09_Mul.f bt364.1 bt364.2.1 bt364.2.2.1 bt364.2.2.2.1 bt364.2.2.2.2.1 bt364.2.2.2.2.2.1 bt364.2.2.2.2.2.2.1 bt364.2.2.2.2.2.2.2 bt336.1 bt336.2.1 bt336.2.2.1 bt336.2.2.2.1 bt336.2.2.2.2.1 bt336.2.2.2.2.2.1 bt336.2.2.2.2.2.2.1 bt336.2.2.2.2.2.2.2).bind fun bt372 => ((offertoryref09_Big_Wide.f bt372.1 bt372.2.1 bt372.2.2.1 bt372.2.2.2.1 bt372.2.2.2.2.1 bt372.2.2.2.2.2.1 bt372.2.2.2.2.2.2.1 bt372.2.2.2.2.2.2.2).bind fun bt380 => (if (t321 == bt380.1 && (t322 == bt380.2)) = true then (some (t323 == bt326.2.2.2.2.2.2)) else (none))))) else (none))))) else (none)) else (none)) else (none))))) = some r := H
       have A33 := Aside0.mk A330
       clear A330
       replace H := Option.bind_eq_some_iff.mp H
       obtain ⟨⟨t326, t329, t330, t331, t332, t333, t334⟩, A340, H⟩ := H
       replace H : ((offertoryref09_Of.f 0 (IntKind.u64.wrap (a2))).bind fun bt336 => ((offertorylaw13_awake.f k2).bind fun t345 => (if t345 = true then (if t324 = 0 then (if t318 = (wrap64 ((l1.length : Int) * (wrap64 (a2)))) then ((offertoryref09_Of.f t330 t331).bind fun bt346 => ((offertoryref09_Mul.f bt346.1 bt346.2.1 bt346.2.2.1 bt346.2.2.2.1 bt346.2.2.2.2.1 bt346.2.2.2.2.2.1 bt346.2.2.2.2.2.2.1 bt346.2.2.2.2.2.2.2 bt336.1 bt336.2.1 bt336.2.2.1 bt336.2.2.2.1 bt336.2.2.2.2.1 bt336.2.2.2.2.2.1 bt336.2.2.2.2.2.2.1 bt336.2.2.2.2.2.2.2).bind fun bt354 => ((offertoryref09_Big_Wide.f bt354.1 bt354.2.1 bt354.2.2.1 bt354.2.2.2.1 bt354.2.2.2.2.1 bt354.2.2.2.2.2.1 bt354.2.2.2.2.2.2.1 bt354.2.2.2.2.2.2.2).bind fun bt362 => (if (t319 == bt362.1 && (t320 == bt362.2)) = true then ((offertoryref09_Of.f t332 t333).bind fun bt364 => ((offertoryref09_Mul.f bt364.1 bt364.2.1 bt364.2.2.1 bt364.2.2.2.1 bt364.2.2.2.2.1 bt364.2.2.2.2.2.1 bt364.2.2.2.2.2.2.1 bt364.2.2.2.2.2.2.2 bt336.1 bt336.2.1 bt336.2.2.1 bt336.2.2.2.1 bt336.2.2.2.2.1 bt336.2.2.2.2.2.1 bt336.2.2.2.2.2.2.1 bt336.2.2.2.2.2.2.2).bind fun bt372 => ((offertoryref09_Big_Wide.f bt372.1 bt372.2.1 bt372.2.2.1 bt372.2.2.2.1 bt372.2.2.2.2.1 bt372.2.2.2.2.2.1 bt372.2.2.2.2.2.2.1 bt372.2.2.2.2.2.2.2).bind fun bt380 => (if (t321 == bt380.1 && (t322 == bt380.2)) = true then (some (t323 == t334)) else (none))))) else (none))))) else (none)) else (none)) else (none)))) = some r := H
       have A34 := Aside0.mk A340
       clear A340
       replace H := Option.bind_eq_some_iff.mp H
       obtain ⟨⟨t336, t337, t338, t339, t340, t341, t342, t343⟩, A350, H⟩ := H
       replace H : ((offertorylaw13_awake.f k2).bind fun t345 => (if t345 = true then (if t324 = 0 then (if t318 = (wrap64 ((l1.length : Int) * (wrap64 (a2)))) then ((offertoryref09_Of.f t330 t331).bind fun bt346 => ((offertoryref09_Mul.f bt346.1 bt346.2.1 bt346.2.2.1 bt346.2.2.2.1 bt346.2.2.2.2.1 bt346.2.2.2.2.2.1 bt346.2.2.2.2.2.2.1 bt346.2.2.2.2.2.2.2 t336 t337 t338 t339 t340 t341 t342 t343).bind fun bt354 => ((offertoryref09_Big_Wide.f bt354.1 bt354.2.1 bt354.2.2.1 bt354.2.2.2.1 bt354.2.2.2.2.1 bt354.2.2.2.2.2.1 bt354.2.2.2.2.2.2.1 bt354.2.2.2.2.2.2.2).bind fun bt362 => (if (t319 == bt362.1 && (t320 == bt362.2)) = true then ((offertoryref09_Of.f t332 t333).bind fun bt364 => ((offertoryref09_Mul.f bt364.1 bt364.2.1 bt364.2.2.1 bt364.2.2.2.1 bt364.2.2.2.2.1 bt364.2.2.2.2.2.1 bt364.2.2.2.2.2.2.1 bt364.2.2.2.2.2.2.2 t336 t337 t338 t339 t340 t341 t342 t343).bind fun bt372 => ((offertoryref09_Big_Wide.f bt372.1 bt372.2.1 bt372.2.2.1 bt372.2.2.2.1 bt372.2.2.2.2.1 bt372.2.2.2.2.2.1 bt372.2.2.2.2.2.2.1 bt372.2.2.2.2.2.2.2).bind fun bt380 => (if (t321 == bt380.1 && (t322 == bt380.2)) = true then (some (t323 == t334)) else (none))))) else (none))))) else (none)) else (none)) else (none))) = some r := H
       have A35 := Aside0.mk A350
       clear A350
       replace H := Option.bind_eq_some_iff.mp H
       obtain ⟨t345, A360, H⟩ := H
       replace H : (if t345 = true then (if t324 = 0 then (if t318 = (wrap64 ((l1.length : Int) * (wrap64 (a2)))) then ((offertoryref09_Of.f t330 t331).bind fun bt346 => ((offertoryref09_Mul.f bt346.1 bt346.2.1 bt346.2.2.1 bt346.2.2.2.1 bt346.2.2.2.2.1 bt346.2.2.2.2.2.1 bt346.2.2.2.2.2.2.1 bt346.2.2.2.2.2.2.2 t336 t337 t338 t339 t340 t341 t342 t343).bind fun bt354 => ((offertoryref09_Big_Wide.f bt354.1 bt354.2.1 bt354.2.2.1 bt354.2.2.2.1 bt354.2.2.2.2.1 bt354.2.2.2.2.2.1 bt354.2.2.2.2.2.2.1 bt354.2.2.2.2.2.2.2).bind fun bt362 => (if (t319 == bt362.1 && (t320 == bt362.2)) = true then ((offertoryref09_Of.f t332 t333).bind fun bt364 => ((offertoryref09_Mul.f bt364.1 bt364.2.1 bt364.2.2.1 bt364.2.2.2.1 bt364.2.2.2.2.1 bt364.2.2.2.2.2.1 bt364.2.2.2.2.2.2.1 bt364.2.2.2.2.2.2.2 t336 t337 t338 t339 t340 t341 t342 t343).bind fun bt372 => ((offertoryref09_Big_Wide.f bt372.1 bt372.2.1 bt372.2.2.1 bt372.2.2.2.1 bt372.2.2.2.2.1 bt372.2.2.2.2.2.1 bt372.2.2.2.2.2.2.1 bt372.2.2.2.2.2.2.2).bind fun bt380 => (if (t321 == bt380.1 && (t322 == bt380.2)) = true then (some (t323 == t334)) else (none))))) else (none))))) else (none)) else (none)) else (none)) = some r := H
       have A36 := Aside0.mk A360
       clear A360
       by_cases c37 : t345 = true
       ·
        subst c37
        have H1 : (if t324 = 0 then (if t318 = (wrap64 ((l1.length : Int) * (wrap64 (a2)))) then ((offertoryref09_Of.f t330 t331).bind fun bt346 => ((offertoryref09_Mul.f bt346.1 bt346.2.1 bt346.2.2.1 bt346.2.2.2.1 bt346.2.2.2.2.1 bt346.2.2.2.2.2.1 bt346.2.2.2.2.2.2.1 bt346.2.2.2.2.2.2.2 t336 t337 t338 t339 t340 t341 t342 t343).bind fun bt354 => ((offertoryref09_Big_Wide.f bt354.1 bt354.2.1 bt354.2.2.1 bt354.2.2.2.1 bt354.2.2.2.2.1 bt354.2.2.2.2.2.1 bt354.2.2.2.2.2.2.1 bt354.2.2.2.2.2.2.2).bind fun bt362 => (if (t319 == bt362.1 && (t320 == bt362.2)) = true then ((offertoryref09_Of.f t332 t333).bind fun bt364 => ((offertoryref09_Mul.f bt364.1 bt364.2.1 bt364.2.2.1 bt364.2.2.2.1 bt364.2.2.2.2.1 bt364.2.2.2.2.2.1 bt364.2.2.2.2.2.2.1 bt364.2.2.2.2.2.2.2 t336 t337 t338 t339 t340 t341 t342 t343).bind fun bt372 => ((offertoryref09_Big_Wide.f bt372.1 bt372.2.1 bt372.2.2.1 bt372.2.2.2.1 bt372.2.2.2.2.1 bt372.2.2.2.2.2.1 bt372.2.2.2.2.2.2.1 bt372.2.2.2.2.2.2.2).bind fun bt380 => (if (t321 == bt380.1 && (t322 == bt380.2)) = true then (some (t323 == t334)) else (none))))) else (none))))) else (none)) else (none)) = some r := by rw [if_pos rfl] at H; exact H
        clear H
        have H := H1
        clear H1
        by_cases c38 : t324 = 0
        ·
         rw [if_pos c38] at H
         have c38b0 : (t324 == 0) = true := beq_iff_eq.mpr c38
         have c38b1 : (t324 != 0) = false := bne_eq_false_iff_eq.mpr c38
         clear c38
         by_cases c39 : t318 = (wrap64 ((l1.length : Int) * (wrap64 (a2))))
         ·
          rw [if_pos c39] at H
          have c39b0 : (t318 == (wrap64 ((l1.length : Int) * (wrap64 (a2))))) = true := beq_iff_eq.mpr c39
          have c39b1 : (t318 != (wrap64 ((l1.length : Int) * (wrap64 (a2))))) = false := bne_eq_false_iff_eq.mpr c39
          clear c39
          replace H := Option.bind_eq_some_iff.mp H
          obtain ⟨⟨t346, t347, t348, t349, t350, t351, t352, t353⟩, A400, H⟩ := H
          replace H : ((offertoryref09_Mul.f t346 t347 t348 t349 t350 t351 t352 t353 t336 t337 t338 t339 t340 t341 t342 t343).bind fun bt354 => ((offertoryref09_Big_Wide.f bt354.1 bt354.2.1 bt354.2.2.1 bt354.2.2.2.1 bt354.2.2.2.2.1 bt354.2.2.2.2.2.1 bt354.2.2.2.2.2.2.1 bt354.2.2.2.2.2.2.2).bind fun bt362 => (if (t319 == bt362.1 && (t320 == bt362.2)) = true then ((offertoryref09_Of.f t332 t333).bind fun bt364 => ((offertoryref09_Mul.f bt364.1 bt364.2.1 bt364.2.2.1 bt364.2.2.2.1 bt364.2.2.2.2.1 bt364.2.2.2.2.2.1 bt364.2.2.2.2.2.2.1 bt364.2.2.2.2.2.2.2 t336 t337 t338 t339 t340 t341 t342 t343).bind fun bt372 => ((offertoryref09_Big_Wide.f bt372.1 bt372.2.1 bt372.2.2.1 bt372.2.2.2.1 bt372.2.2.2.2.1 bt372.2.2.2.2.2.1 bt372.2.2.2.2.2.2.1 bt372.2.2.2.2.2.2.2).bind fun bt380 => (if (t321 == bt380.1 && (t322 == bt380.2)) = true then (some (t323 == t334)) else (none))))) else (none)))) = some r := H
          have A40 := Aside0.mk A400
          clear A400
          replace H := Option.bind_eq_some_iff.mp H
          obtain ⟨⟨t354, t355, t356, t357, t358, t359, t360, t361⟩, A410, H⟩ := H
          replace H : ((offertoryref09_Big_Wide.f t354 t355 t356 t357 t358 t359 t360 t361).bind fun bt362 => (if (t319 == bt362.1 && (t320 == bt362.2)) = true then ((offertoryref09_Of.f t332 t333).bind fun bt364 => ((offertoryref09_Mul.f bt364.1 bt364.2.1 bt364.2.2.1 bt364.2.2.2.1 bt364.2.2.2.2.1 bt364.2.2.2.2.2.1 bt364.2.2.2.2.2.2.1 bt364.2.2.2.2.2.2.2 t336 t337 t338 t339 t340 t341 t342 t343).bind fun bt372 => ((offertoryref09_Big_Wide.f bt372.1 bt372.2.1 bt372.2.2.1 bt372.2.2.2.1 bt372.2.2.2.2.1 bt372.2.2.2.2.2.1 bt372.2.2.2.2.2.2.1 bt372.2.2.2.2.2.2.2).bind fun bt380 => (if (t321 == bt380.1 && (t322 == bt380.2)) = true then (some (t323 == t334)) else (none))))) else (none))) = some r := H
          have A41 := Aside0.mk A410
          clear A410
          replace H := Option.bind_eq_some_iff.mp H
          obtain ⟨⟨t362, t363⟩, A420, H⟩ := H
          replace H : (if (t319 == t362 && (t320 == t363)) = true then ((offertoryref09_Of.f t332 t333).bind fun bt364 => ((offertoryref09_Mul.f bt364.1 bt364.2.1 bt364.2.2.1 bt364.2.2.2.1 bt364.2.2.2.2.1 bt364.2.2.2.2.2.1 bt364.2.2.2.2.2.2.1 bt364.2.2.2.2.2.2.2 t336 t337 t338 t339 t340 t341 t342 t343).bind fun bt372 => ((offertoryref09_Big_Wide.f bt372.1 bt372.2.1 bt372.2.2.1 bt372.2.2.2.1 bt372.2.2.2.2.1 bt372.2.2.2.2.2.1 bt372.2.2.2.2.2.2.1 bt372.2.2.2.2.2.2.2).bind fun bt380 => (if (t321 == bt380.1 && (t322 == bt380.2)) = true then (some (t323 == t334)) else (none))))) else (none)) = some r := H
          have A42 := Aside0.mk A420
          clear A420
          by_cases c43 : (t319 == t362 && (t320 == t363)) = true
          ·
           rw [if_pos c43] at H
           have c43b0 : (t319 == t362 && (t320 == t363)) = true := c43
           (try (have c43b1 : decide (t319 = t362 && (t320 == t363)) = true := by first | decide | simpa using c43))
           (try (have c43b2 : (t319 == t362 && (t320 == t363)) = true := by first | decide | simpa using c43))
           clear c43
           replace H := Option.bind_eq_some_iff.mp H
           obtain ⟨⟨t364, t365, t366, t367, t368, t369, t370, t371⟩, A440, H⟩ := H
           replace H : ((offertoryref09_Mul.f t364 t365 t366 t367 t368 t369 t370 t371 t336 t337 t338 t339 t340 t341 t342 t343).bind fun bt372 => ((offertoryref09_Big_Wide.f bt372.1 bt372.2.1 bt372.2.2.1 bt372.2.2.2.1 bt372.2.2.2.2.1 bt372.2.2.2.2.2.1 bt372.2.2.2.2.2.2.1 bt372.2.2.2.2.2.2.2).bind fun bt380 => (if (t321 == bt380.1 && (t322 == bt380.2)) = true then (some (t323 == t334)) else (none)))) = some r := H
           have A44 := Aside0.mk A440
           clear A440
           replace H := Option.bind_eq_some_iff.mp H
           obtain ⟨⟨t372, t373, t374, t375, t376, t377, t378, t379⟩, A450, H⟩ := H
           replace H : ((offertoryref09_Big_Wide.f t372 t373 t374 t375 t376 t377 t378 t379).bind fun bt380 => (if (t321 == bt380.1 && (t322 == bt380.2)) = true then (some (t323 == t334)) else (none))) = some r := H
           have A45 := Aside0.mk A450
           clear A450
           replace H := Option.bind_eq_some_iff.mp H
           obtain ⟨⟨t380, t381⟩, A460, H⟩ := H
           replace H : (if (t321 == t380 && (t322 == t381)) = true then (some (t323 == t334)) else (none)) = some r := H
           have A46 := Aside0.mk A460
           clear A460
           by_cases c47 : (t321 == t380 && (t322 == t381)) = true
           ·
            rw [if_pos c47] at H
            have c47b0 : (t321 == t380 && (t322 == t381)) = true := c47
            (try (have c47b1 : decide (t321 = t380 && (t322 == t381)) = true := by first | decide | simpa using c47))
            (try (have c47b2 : (t321 == t380 && (t322 == t381)) = true := by first | decide | simpa using c47))
            clear c47
            obtain rfl := Option.some.inj H
            obtain ⟨Ao48, co48, eo48⟩ := Kd.R_slice HO_7.out
            subst eo48
            have hcz49_0 : wr.cell? ⟨gb307, 0, none⟩ = some (.int .i64 a0_0) := (blk_cell BK307.out 0).trans rfl
            have hcz49_1 : wr.cell? ⟨gb307, 1, none⟩ = some (.int .i64 a0_1) := (blk_cell BK307.out 1).trans rfl
            have hcz49_2 : wr.cell? ⟨gb307, 2, none⟩ = some (.int .i64 a0_2) := (blk_cell BK307.out 2).trans rfl
            have hcz49_3 : wr.cell? ⟨gb307, 3, none⟩ = some (.slice A0_3 l0_3.length c0_3) := (blk_cell BK307.out 3).trans rfl
            have hfz49_0 := blk_frozen BK307.out 0
            have hfz49_1 := blk_frozen BK307.out 1
            have hfz49_2 := blk_frozen BK307.out 2
            have hfz49_3 := blk_frozen BK307.out 3
            try go_wp2_with (first | ((with_reducible refine gate_callee (f := 13) rfl ?_); refine goesL_ (some 59) rfl rfl Try.func13 (by kernel_rfl) rfl #[.agg #[.int .i64 a0_0, .int .i64 a0_1, .int .i64 a0_2, .slice A0_3 l0_3.length c0_3], .slice Ao48 x7_2.length co48] rfl (by (try simp only [List.map_toArray, List.map_cons, List.map_nil]); first | done | rfl | (simp only [List.length_drop, List.length_take]; rfl)) ?_; (with_reducible refine (stats_Decode.calls k2 a0_0 a0_1 a0_2 _ _ l0_3 _ _ x7_2 t315 t318 t319 t320 t321 t322 t323 t324 _ ?side1 ?side2 ?side3 ?side4 A33.out).mono ?_); (case side1 => repeat (first | exact (Kd.C_below HR0_3.out HB.out) | (with_reducible refine Kd.C_alloc ?_ _) | (with_reducible refine Kd.C_drewN ?_ _) | (with_reducible refine Kd.C_drew ?_))); (case side2 => exact HC0_3.out); (case side3 => repeat (first | exact (Kd.R_reads' HO_7.out).2.2 | (with_reducible refine Kd.C_alloc ?_ _) | (with_reducible refine Kd.C_drewN ?_ _) | (with_reducible refine Kd.C_drew ?_))); (case side4 => exact (Kd.R_reads' HO_7.out).2.1); rintro e w50 ⟨v316, rfl, ho0, hb⟩; refine ⟨_, rfl, ?_⟩; have n0_ := Aside0.mk (Kd.R_below (by (with_reducible repeat (first | apply Kd.R_alloc | apply Kd.R_drewN | apply Kd.R_drew)); exact HO_7.out) hb); have n1_ := Aside0.mk (Kd.R_lower ho0 (below_size (by repeat (first | (with_reducible first | exact HB.out | apply below_alloc | apply pw_below_drewN | apply below_drew1 | refine below_set ?_ GE307.out) | exact HB.out)))); have n2_ := offertorylaw13_StatsTimes.keepB BK307 hb; have n3_ := Aside0.mk (below_step (by repeat (first | (with_reducible first | exact HB.out | apply below_alloc | apply pw_below_drewN | apply below_drew1 | refine below_set ?_ GE307.out) | exact HB.out)) hb); clear HO_7; clear BK307; clear HB; have HO_7 := n0_; have HO317 := n1_; have BK307 := n2_; have HB := n3_; clear n0_ n1_ n2_ n3_; (try clear hb); (try clear hb2); (try clear hk); (try clear hi); (try clear ho0)) | ((with_reducible refine gate_dst (N := 9) rfl ?_); (try (refine gate_guard (by rfl) ?_; dsimp only)); refine box_event ?hg (N := 9) ?hd (cs := #[.slice none 0 0, .int .i64 0, .int .u64 0, .int .u64 0, .int .u64 0, .int .u64 0, .bool false]) (t := 29) ?hr ?_; (case hd => rfl); (case hg => rfl); (case hr => first | (go_simp; done) | (go_simp; rfl)); intro gb325 hg w51 hbox hb; have n0_ := Aside0.mk (Kd.R_below (by (with_reducible repeat (first | apply Kd.R_alloc | apply Kd.R_drewN | apply Kd.R_drew)); exact HO_7.out) hb); have n1_ := Aside0.mk (Kd.R_below (by (with_reducible repeat (first | apply Kd.R_alloc | apply Kd.R_drewN | apply Kd.R_drew)); exact HO317.out) hb); have n2_ := offertorylaw13_StatsTimes.keepB BK307 hb; have n3_ := Aside0.mk (below_step (by repeat (first | (with_reducible first | exact HB.out | apply below_alloc | apply pw_below_drewN | apply below_drew1 | refine below_set ?_ GE307.out) | exact HB.out)) hb); have n4_ := Aside0.mk (hbox); have n5_ := Aside0.mk ((by rw [hg]; exact (below_size (by repeat (first | (with_reducible first | exact HB.out | apply below_alloc | apply pw_below_drewN | apply below_drew1 | refine below_set ?_ GE307.out) | exact HB.out))) : w.heap.size ≤ gb325)); have n6_ := Aside0.mk ((by rw [hg]; exact (below_size (by repeat (first | (with_reducible first | exact HB.out | apply below_alloc | apply pw_below_drewN | apply below_drew1 | refine below_set ?_ GE307.out) | exact HB.out))) : w.heap.size ≤ gb325)); have n7_ := offertorylaw13_StatsTimes.neL BK307 hg; have n8_ := offertorylaw13_StatsTimes.neG BK307 hg; clear HO_7; clear HO317; clear BK307; clear HB; have HO_7 := n0_; have HO317 := n1_; have BK307 := n2_; have HB := n3_; have BK325 := n4_; have GW325 := n5_; have GE325 := n6_; have NB307_325 := n7_; have NB325_307 := n8_; clear n0_ n1_ n2_ n3_ n4_ n5_ n6_ n7_ n8_; clear hb hbox hg; obtain ⟨Ao52, co52, eo52⟩ := Kd.R_slice HO317.out; subst eo52; have hnb53 := NB325_307.out; have hnc53 := NB307_325.out; have hcz54_0 : w51.cell? ⟨gb325, 0, none⟩ = some (.slice none 0 0) := (blk_cell BK325.out 0).trans rfl; have hcz54_1 : w51.cell? ⟨gb325, 1, none⟩ = some (.int .i64 0) := (blk_cell BK325.out 1).trans rfl; have hcz54_2 : w51.cell? ⟨gb325, 2, none⟩ = some (.int .u64 0) := (blk_cell BK325.out 2).trans rfl; have hcz54_3 : w51.cell? ⟨gb325, 3, none⟩ = some (.int .u64 0) := (blk_cell BK325.out 3).trans rfl; have hcz54_4 : w51.cell? ⟨gb325, 4, none⟩ = some (.int .u64 0) := (blk_cell BK325.out 4).trans rfl; have hcz54_5 : w51.cell? ⟨gb325, 5, none⟩ = some (.int .u64 0) := (blk_cell BK325.out 5).trans rfl; have hcz54_6 : w51.cell? ⟨gb325, 6, none⟩ = some (.bool false) := (blk_cell BK325.out 6).trans rfl; have hfz54_0 := blk_frozen BK325.out 0; have hfz54_1 := blk_frozen BK325.out 1; have hfz54_2 := blk_frozen BK325.out 2; have hfz54_3 := blk_frozen BK325.out 3; have hfz54_4 := blk_frozen BK325.out 4; have hfz54_5 := blk_frozen BK325.out 5; have hfz54_6 := blk_frozen BK325.out 6; have hcz55_0 : w51.cell? ⟨gb307, 0, none⟩ = some (.int .i64 a0_0) := (blk_cell BK307.out 0).trans rfl; have hcz55_1 : w51.cell? ⟨gb307, 1, none⟩ = some (.int .i64 a0_1) := (blk_cell BK307.out 1).trans rfl; have hcz55_2 : w51.cell? ⟨gb307, 2, none⟩ = some (.int .i64 a0_2) := (blk_cell BK307.out 2).trans rfl; have hcz55_3 : w51.cell? ⟨gb307, 3, none⟩ = some (.slice A0_3 l0_3.length c0_3) := (blk_cell BK307.out 3).trans rfl; have hfz55_0 := blk_frozen BK307.out 0; have hfz55_1 := blk_frozen BK307.out 1; have hfz55_2 := blk_frozen BK307.out 2; have hfz55_3 := blk_frozen BK307.out 3) | ((with_reducible refine gate_callee (f := 12) rfl ?_); refine goesL_ (some 64) rfl rfl Try.func12 (by kernel_rfl) rfl #[.agg #[.int .i64 a0_0, .int .i64 a0_1, .int .i64 a0_2, .slice A0_3 l0_3.length c0_3], .slice A1 l1.length c1] rfl (by (try simp only [List.map_toArray, List.map_cons, List.map_nil]); first | done | rfl | (simp only [List.length_drop, List.length_take]; rfl)) ?_; (with_reducible refine (offertoryref09_Stats.calls k2 a0_0 a0_1 a0_2 _ _ l0_3 _ _ l1 t326 t329 t330 t331 t332 t333 t334 _ ?side1 ?side2 ?side3 ?side4 A34.out).mono ?_); (case side1 => exact Kd.C_below HR0_3.out (by repeat (first | (with_reducible first | exact HB.out | apply below_alloc | apply pw_below_drewN | apply below_drew1 | refine below_set ?_ GE307.out | refine below_set ?_ GE325.out) | exact HB.out))); (case side2 => exact HC0_3.out); (case side3 => exact Kd.C_below HR1.out (by repeat (first | (with_reducible first | exact HB.out | apply below_alloc | apply pw_below_drewN | apply below_drew1 | refine below_set ?_ GE307.out | refine below_set ?_ GE325.out) | exact HB.out))); (case side4 => exact HC1.out); rintro e w56 ⟨v327, rfl, ho0, hb⟩; refine ⟨_, rfl, ?_⟩; have n0_ := Aside0.mk (Kd.R_below (by (with_reducible repeat (first | apply Kd.R_alloc | apply Kd.R_drewN | apply Kd.R_drew)); exact (Kd.R_mono (Kd.R_far (p := ⟨gb325, 6, none⟩) (Kd.R_far (p := ⟨gb325, 5, none⟩) (Kd.R_far (p := ⟨gb325, 4, none⟩) (Kd.R_far (p := ⟨gb325, 3, none⟩) (Kd.R_far (p := ⟨gb325, 2, none⟩) (Kd.R_far (p := ⟨gb325, 1, none⟩) (Kd.R_far (p := ⟨gb325, 0, none⟩) (Kd.R_types HO_7.out BK325.out (by decide)) (fun _ hk => hk.2) (.slice Ao52 t315.length co52)) (fun _ hk => hk.2) (.int .i64 t318)) (fun _ hk => hk.2) (.int .u64 t319)) (fun _ hk => hk.2) (.int .u64 t320)) (fun _ hk => hk.2) (.int .u64 t321)) (fun _ hk => hk.2) (.int .u64 t322)) (fun _ hk => hk.2) (.bool t323)) (fun _ h_ => h_.1))) hb); have n1_ := Aside0.mk (Kd.R_elder' (by (with_reducible repeat (first | apply Kd.R_alloc | apply Kd.R_drewN | apply Kd.R_drew)); exact (Kd.R_mono (Kd.R_far (p := ⟨gb325, 6, none⟩) (Kd.R_far (p := ⟨gb325, 5, none⟩) (Kd.R_far (p := ⟨gb325, 4, none⟩) (Kd.R_far (p := ⟨gb325, 3, none⟩) (Kd.R_far (p := ⟨gb325, 2, none⟩) (Kd.R_far (p := ⟨gb325, 1, none⟩) (Kd.R_far (p := ⟨gb325, 0, none⟩) (Kd.R_types HO317.out BK325.out (by decide)) (fun _ hk => hk.2) (.slice Ao52 t315.length co52)) (fun _ hk => hk.2) (.int .i64 t318)) (fun _ hk => hk.2) (.int .u64 t319)) (fun _ hk => hk.2) (.int .u64 t320)) (fun _ hk => hk.2) (.int .u64 t321)) (fun _ hk => hk.2) (.int .u64 t322)) (fun _ hk => hk.2) (.bool t323)) (fun _ h_ => h_.1))) (Kd.R_base ho0) hb); have n2_ := Aside0.mk (Kd.R_lower (Kd.R_new' ho0 (Kd.R_lt (by (with_reducible repeat (first | apply Kd.R_alloc | apply Kd.R_drewN | apply Kd.R_drew)); exact (Kd.R_mono (Kd.R_far (p := ⟨gb325, 6, none⟩) (Kd.R_far (p := ⟨gb325, 5, none⟩) (Kd.R_far (p := ⟨gb325, 4, none⟩) (Kd.R_far (p := ⟨gb325, 3, none⟩) (Kd.R_far (p := ⟨gb325, 2, none⟩) (Kd.R_far (p := ⟨gb325, 1, none⟩) (Kd.R_far (p := ⟨gb325, 0, none⟩) (Kd.R_types HO317.out BK325.out (by decide)) (fun _ hk => hk.2) (.slice Ao52 t315.length co52)) (fun _ hk => hk.2) (.int .i64 t318)) (fun _ hk => hk.2) (.int .u64 t319)) (fun _ hk => hk.2) (.int .u64 t320)) (fun _ hk => hk.2) (.int .u64 t321)) (fun _ hk => hk.2) (.int .u64 t322)) (fun _ hk => hk.2) (.bool t323)) (fun _ h_ => h_.1))))) (below_size (by repeat (first | (with_reducible first | exact HB.out | apply below_alloc | apply pw_below_drewN | apply below_drew1 | refine below_set ?_ GE307.out | refine below_set ?_ GE325.out) | exact HB.out)))); have n3_ := Aside0.mk (blk_below (g := gb307) (o := .cells #[.int .i64 a0_0, .int .i64 a0_1, .int .i64 a0_2, .slice A0_3 l0_3.length c0_3] 24 (0, 0)) (by (repeat (first | (with_reducible first | refine blk_drewN ?_ _ | refine blk_drew ?_ | refine blk_alloc ?_ _) | refine blk_far ?_ NB307_325.out _)); (with_reducible repeat (first | refine blk_drewN ?_ _ | refine blk_drew ?_ | refine blk_alloc ?_ _)); exact BK307.out) hb); have n4_ := Aside0.mk (blk_below (g := gb325) (o := .cells #[.slice Ao52 t315.length co52, .int .i64 t318, .int .u64 t319, .int .u64 t320, .int .u64 t321, .int .u64 t322, .bool t323] 29 (0, 0)) (by (with_reducible repeat (first | refine blk_drewN ?_ _ | refine blk_drew ?_ | refine blk_alloc ?_ _)); refine blk_put (cs := #[.slice Ao52 t315.length co52, .int .i64 t318, .int .u64 t319, .int .u64 t320, .int .u64 t321, .int .u64 t322, .bool false]) ?_ 6 _ rfl; (with_reducible repeat (first | refine blk_drewN ?_ _ | refine blk_drew ?_ | refine blk_alloc ?_ _)); refine blk_put (cs := #[.slice Ao52 t315.length co52, .int .i64 t318, .int .u64 t319, .int .u64 t320, .int .u64 t321, .int .u64 0, .bool false]) ?_ 5 _ rfl; (with_reducible repeat (first | refine blk_drewN ?_ _ | refine blk_drew ?_ | refine blk_alloc ?_ _)); refine blk_put (cs := #[.slice Ao52 t315.length co52, .int .i64 t318, .int .u64 t319, .int .u64 t320, .int .u64 0, .int .u64 0, .bool false]) ?_ 4 _ rfl; (with_reducible repeat (first | refine blk_drewN ?_ _ | refine blk_drew ?_ | refine blk_alloc ?_ _)); refine blk_put (cs := #[.slice Ao52 t315.length co52, .int .i64 t318, .int .u64 t319, .int .u64 0, .int .u64 0, .int .u64 0, .bool false]) ?_ 3 _ rfl; (with_reducible repeat (first | refine blk_drewN ?_ _ | refine blk_drew ?_ | refine blk_alloc ?_ _)); refine blk_put (cs := #[.slice Ao52 t315.length co52, .int .i64 t318, .int .u64 0, .int .u64 0, .int .u64 0, .int .u64 0, .bool false]) ?_ 2 _ rfl; (with_reducible repeat (first | refine blk_drewN ?_ _ | refine blk_drew ?_ | refine blk_alloc ?_ _)); refine blk_put (cs := #[.slice Ao52 t315.length co52, .int .i64 0, .int .u64 0, .int .u64 0, .int .u64 0, .int .u64 0, .bool false]) ?_ 1 _ rfl; (with_reducible repeat (first | refine blk_drewN ?_ _ | refine blk_drew ?_ | refine blk_alloc ?_ _)); refine blk_put (cs := #[.slice none 0 0, .int .i64 0, .int .u64 0, .int .u64 0, .int .u64 0, .int .u64 0, .bool false]) ?_ 0 _ rfl; (with_reducible repeat (first | refine blk_drewN ?_ _ | refine blk_drew ?_ | refine blk_alloc ?_ _)); exact BK325.out) hb); have n5_ := Aside0.mk (below_step (by repeat (first | (with_reducible first | exact HB.out | apply below_alloc | apply pw_below_drewN | apply below_drew1 | refine below_set ?_ GE307.out | refine below_set ?_ GE325.out) | exact HB.out)) hb); clear HO_7; clear HO317; clear BK307; clear BK325; clear HB; have HO_7 := n0_; have HO317 := n1_; have HO328 := n2_; have BK307 := n3_; have BK325 := n4_; have HB := n5_; clear n0_ n1_ n2_ n3_ n4_ n5_; (try clear hb); (try clear hb2); (try clear hk); (try clear hi); (try clear ho0)) | ((with_reducible refine gate_dst (N := 11) rfl ?_); (try (refine gate_guard (by rfl) ?_; dsimp only)); refine box_event ?hg (N := 11) ?hd (cs := #[.slice none 0 0, .int .i64 0, .int .u64 0, .int .u64 0, .int .u64 0, .int .u64 0, .bool false]) (t := 29) ?hr ?_; (case hd => rfl); (case hg => rfl); (case hr => first | (go_simp; done) | (go_simp; rfl)); intro gb335 hg w57 hbox hb; have n0_ := Aside0.mk (Kd.R_below (by (with_reducible repeat (first | apply Kd.R_alloc | apply Kd.R_drewN | apply Kd.R_drew)); exact HO_7.out) hb); have n1_ := Aside0.mk (Kd.R_below (by (with_reducible repeat (first | apply Kd.R_alloc | apply Kd.R_drewN | apply Kd.R_drew)); exact HO317.out) hb); have n2_ := Aside0.mk (Kd.R_below (by (with_reducible repeat (first | apply Kd.R_alloc | apply Kd.R_drewN | apply Kd.R_drew)); exact HO328.out) hb); have n3_ := offertorylaw13_StatsTimes.keepB BK307 hb; have n4_ := offertorylaw13_StatsTimes.keepB BK325 hb; have n5_ := Aside0.mk (below_step (by repeat (first | (with_reducible first | exact HB.out | apply below_alloc | apply pw_below_drewN | apply below_drew1 | refine below_set ?_ GE307.out | refine below_set ?_ GE325.out) | exact HB.out)) hb); have n6_ := Aside0.mk (hbox); have n7_ := Aside0.mk ((by rw [hg]; exact (below_size (by repeat (first | (with_reducible first | exact HB.out | apply below_alloc | apply pw_below_drewN | apply below_drew1 | refine below_set ?_ GE307.out | refine below_set ?_ GE325.out) | exact HB.out))) : w.heap.size ≤ gb335)); have n8_ := Aside0.mk ((by rw [hg]; exact (below_size (by repeat (first | (with_reducible first | exact HB.out | apply below_alloc | apply pw_below_drewN | apply below_drew1 | refine below_set ?_ GE307.out | refine below_set ?_ GE325.out) | exact HB.out))) : w.heap.size ≤ gb335)); have n9_ := offertorylaw13_StatsTimes.neL BK307 hg; have n10_ := offertorylaw13_StatsTimes.neG BK307 hg; have n11_ := offertorylaw13_StatsTimes.neL BK325 hg; have n12_ := offertorylaw13_StatsTimes.neG BK325 hg; clear HO_7; clear HO317; clear HO328; clear BK307; clear BK325; clear HB; have HO_7 := n0_; have HO317 := n1_; have HO328 := n2_; have BK307 := n3_; have BK325 := n4_; have HB := n5_; have BK335 := n6_; have GW335 := n7_; have GE335 := n8_; have NB307_335 := n9_; have NB335_307 := n10_; have NB325_335 := n11_; have NB335_325 := n12_; clear n0_ n1_ n2_ n3_ n4_ n5_ n6_ n7_ n8_ n9_ n10_ n11_ n12_; clear hb hbox hg; obtain ⟨Ao58, co58, eo58⟩ := Kd.R_slice HO328.out; subst eo58; have hnb59 := NB335_307.out; have hnc59 := NB307_335.out; have hnb60 := NB335_325.out; have hnc60 := NB325_335.out; have hcz61_0 : w57.cell? ⟨gb335, 0, none⟩ = some (.slice none 0 0) := (blk_cell BK335.out 0).trans rfl; have hcz61_1 : w57.cell? ⟨gb335, 1, none⟩ = some (.int .i64 0) := (blk_cell BK335.out 1).trans rfl; have hcz61_2 : w57.cell? ⟨gb335, 2, none⟩ = some (.int .u64 0) := (blk_cell BK335.out 2).trans rfl; have hcz61_3 : w57.cell? ⟨gb335, 3, none⟩ = some (.int .u64 0) := (blk_cell BK335.out 3).trans rfl; have hcz61_4 : w57.cell? ⟨gb335, 4, none⟩ = some (.int .u64 0) := (blk_cell BK335.out 4).trans rfl; have hcz61_5 : w57.cell? ⟨gb335, 5, none⟩ = some (.int .u64 0) := (blk_cell BK335.out 5).trans rfl; have hcz61_6 : w57.cell? ⟨gb335, 6, none⟩ = some (.bool false) := (blk_cell BK335.out 6).trans rfl; have hfz61_0 := blk_frozen BK335.out 0; have hfz61_1 := blk_frozen BK335.out 1; have hfz61_2 := blk_frozen BK335.out 2; have hfz61_3 := blk_frozen BK335.out 3; have hfz61_4 := blk_frozen BK335.out 4; have hfz61_5 := blk_frozen BK335.out 5; have hfz61_6 := blk_frozen BK335.out 6) | ((with_reducible refine gate_callee (f := 18) rfl ?_); refine goesL_ (some 68) rfl rfl Try.func18 (by kernel_rfl) rfl #[.agg #[.int .u64 0, .int .u64 (IntKind.u64.wrap (a2))]] rfl (by (try simp only [List.map_toArray, List.map_cons, List.map_nil]); first | done | rfl | (simp only [List.length_drop, List.length_take]; rfl)) ?_; (with_reducible refine (offertoryref09_Of.calls 0 (IntKind.u64.wrap (a2)) t336 t337 t338 t339 t340 t341 t342 t343 _ A35.out).mono ?_); rintro e w62 ⟨rfl, hb⟩; refine ⟨_, rfl, ?_⟩; have n0_ := Aside0.mk (Kd.R_below (by (with_reducible repeat (first | apply Kd.R_alloc | apply Kd.R_drewN | apply Kd.R_drew)); exact (Kd.R_mono (Kd.R_far (p := ⟨gb335, 6, none⟩) (Kd.R_far (p := ⟨gb335, 5, none⟩) (Kd.R_far (p := ⟨gb335, 4, none⟩) (Kd.R_far (p := ⟨gb335, 3, none⟩) (Kd.R_far (p := ⟨gb335, 2, none⟩) (Kd.R_far (p := ⟨gb335, 1, none⟩) (Kd.R_far (p := ⟨gb335, 0, none⟩) (Kd.R_types HO_7.out BK335.out (by decide)) (fun _ hk => hk.2) (.slice Ao58 t326.length co58)) (fun _ hk => hk.2) (.int .i64 t329)) (fun _ hk => hk.2) (.int .u64 t330)) (fun _ hk => hk.2) (.int .u64 t331)) (fun _ hk => hk.2) (.int .u64 t332)) (fun _ hk => hk.2) (.int .u64 t333)) (fun _ hk => hk.2) (.bool t334)) (fun _ h_ => h_.1))) hb); have n1_ := Aside0.mk (Kd.R_below (by (with_reducible repeat (first | apply Kd.R_alloc | apply Kd.R_drewN | apply Kd.R_drew)); exact (Kd.R_mono (Kd.R_far (p := ⟨gb335, 6, none⟩) (Kd.R_far (p := ⟨gb335, 5, none⟩) (Kd.R_far (p := ⟨gb335, 4, none⟩) (Kd.R_far (p := ⟨gb335, 3, none⟩) (Kd.R_far (p := ⟨gb335, 2, none⟩) (Kd.R_far (p := ⟨gb335, 1, none⟩) (Kd.R_far (p := ⟨gb335, 0, none⟩) (Kd.R_types HO317.out BK335.out (by decide)) (fun _ hk => hk.2) (.slice Ao58 t326.length co58)) (fun _ hk => hk.2) (.int .i64 t329)) (fun _ hk => hk.2) (.int .u64 t330)) (fun _ hk => hk.2) (.int .u64 t331)) (fun _ hk => hk.2) (.int .u64 t332)) (fun _ hk => hk.2) (.int .u64 t333)) (fun _ hk => hk.2) (.bool t334)) (fun _ h_ => h_.1))) hb); have n2_ := Aside0.mk (Kd.R_below (by (with_reducible repeat (first | apply Kd.R_alloc | apply Kd.R_drewN | apply Kd.R_drew)); exact (Kd.R_mono (Kd.R_far (p := ⟨gb335, 6, none⟩) (Kd.R_far (p := ⟨gb335, 5, none⟩) (Kd.R_far (p := ⟨gb335, 4, none⟩) (Kd.R_far (p := ⟨gb335, 3, none⟩) (Kd.R_far (p := ⟨gb335, 2, none⟩) (Kd.R_far (p := ⟨gb335, 1, none⟩) (Kd.R_far (p := ⟨gb335, 0, none⟩) (Kd.R_types HO328.out BK335.out (by decide)) (fun _ hk => hk.2) (.slice Ao58 t326.length co58)) (fun _ hk => hk.2) (.int .i64 t329)) (fun _ hk => hk.2) (.int .u64 t330)) (fun _ hk => hk.2) (.int .u64 t331)) (fun _ hk => hk.2) (.int .u64 t332)) (fun _ hk => hk.2) (.int .u64 t333)) (fun _ hk => hk.2) (.bool t334)) (fun _ h_ => h_.1))) hb); have n3_ := Aside0.mk (blk_below (g := gb307) (o := .cells #[.int .i64 a0_0, .int .i64 a0_1, .int .i64 a0_2, .slice A0_3 l0_3.length c0_3] 24 (0, 0)) (by (repeat (first | (with_reducible first | refine blk_drewN ?_ _ | refine blk_drew ?_ | refine blk_alloc ?_ _) | refine blk_far ?_ NB307_335.out _)); (with_reducible repeat (first | refine blk_drewN ?_ _ | refine blk_drew ?_ | refine blk_alloc ?_ _)); exact BK307.out) hb); have n4_ := Aside0.mk (blk_below (g := gb325) (o := .cells #[.slice Ao52 t315.length co52, .int .i64 t318, .int .u64 t319, .int .u64 t320, .int .u64 t321, .int .u64 t322, .bool t323] 29 (0, 0)) (by (repeat (first | (with_reducible first | refine blk_drewN ?_ _ | refine blk_drew ?_ | refine blk_alloc ?_ _) | refine blk_far ?_ NB325_335.out _)); (with_reducible repeat (first | refine blk_drewN ?_ _ | refine blk_drew ?_ | refine blk_alloc ?_ _)); exact BK325.out) hb); have n5_ := Aside0.mk (blk_below (g := gb335) (o := .cells #[.slice Ao58 t326.length co58, .int .i64 t329, .int .u64 t330, .int .u64 t331, .int .u64 t332, .int .u64 t333, .bool t334] 29 (0, 0)) (by (with_reducible repeat (first | refine blk_drewN ?_ _ | refine blk_drew ?_ | refine blk_alloc ?_ _)); refine blk_put (cs := #[.slice Ao58 t326.length co58, .int .i64 t329, .int .u64 t330, .int .u64 t331, .int .u64 t332, .int .u64 t333, .bool false]) ?_ 6 _ rfl; (with_reducible repeat (first | refine blk_drewN ?_ _ | refine blk_drew ?_ | refine blk_alloc ?_ _)); refine blk_put (cs := #[.slice Ao58 t326.length co58, .int .i64 t329, .int .u64 t330, .int .u64 t331, .int .u64 t332, .int .u64 0, .bool false]) ?_ 5 _ rfl; (with_reducible repeat (first | refine blk_drewN ?_ _ | refine blk_drew ?_ | refine blk_alloc ?_ _)); refine blk_put (cs := #[.slice Ao58 t326.length co58, .int .i64 t329, .int .u64 t330, .int .u64 t331, .int .u64 0, .int .u64 0, .bool false]) ?_ 4 _ rfl; (with_reducible repeat (first | refine blk_drewN ?_ _ | refine blk_drew ?_ | refine blk_alloc ?_ _)); refine blk_put (cs := #[.slice Ao58 t326.length co58, .int .i64 t329, .int .u64 t330, .int .u64 0, .int .u64 0, .int .u64 0, .bool false]) ?_ 3 _ rfl; (with_reducible repeat (first | refine blk_drewN ?_ _ | refine blk_drew ?_ | refine blk_alloc ?_ _)); refine blk_put (cs := #[.slice Ao58 t326.length co58, .int .i64 t329, .int .u64 0, .int .u64 0, .int .u64 0, .int .u64 0, .bool false]) ?_ 2 _ rfl; (with_reducible repeat (first | refine blk_drewN ?_ _ | refine blk_drew ?_ | refine blk_alloc ?_ _)); refine blk_put (cs := #[.slice Ao58 t326.length co58, .int .i64 0, .int .u64 0, .int .u64 0, .int .u64 0, .int .u64 0, .bool false]) ?_ 1 _ rfl; (with_reducible repeat (first | refine blk_drewN ?_ _ | refine blk_drew ?_ | refine blk_alloc ?_ _)); refine blk_put (cs := #[.slice none 0 0, .int .i64 0, .int .u64 0, .int .u64 0, .int .u64 0, .int .u64 0, .bool false]) ?_ 0 _ rfl; (with_reducible repeat (first | refine blk_drewN ?_ _ | refine blk_drew ?_ | refine blk_alloc ?_ _)); exact BK335.out) hb); have n6_ := Aside0.mk (below_step (by repeat (first | (with_reducible first | exact HB.out | apply below_alloc | apply pw_below_drewN | apply below_drew1 | refine below_set ?_ GE307.out | refine below_set ?_ GE325.out | refine below_set ?_ GE335.out) | exact HB.out)) hb); clear HO_7; clear HO317; clear HO328; clear BK307; clear BK325; clear BK335; clear HB; have HO_7 := n0_; have HO317 := n1_; have HO328 := n2_; have BK307 := n3_; have BK325 := n4_; have BK335 := n5_; have HB := n6_; clear n0_ n1_ n2_ n3_ n4_ n5_ n6_; (try clear hb); (try clear hb2); (try clear hk); (try clear hi)) | ((with_reducible refine gate_dst (N := 12) rfl ?_); (try (refine gate_guard (by rfl) ?_; dsimp only)); refine box_event ?hg (N := 12) ?hd (cs := #[.int .u32 0, .int .u32 0, .int .u32 0, .int .u32 0, .int .u32 0, .int .u32 0, .int .u32 0, .int .u32 0]) (t := 45) ?hr ?_; (case hd => rfl); (case hg => rfl); (case hr => first | (go_simp; done) | (go_simp; rfl)); intro gb344 hg w63 hbox hb; have n0_ := Aside0.mk (Kd.R_below (by (with_reducible repeat (first | apply Kd.R_alloc | apply Kd.R_drewN | apply Kd.R_drew)); exact HO_7.out) hb); have n1_ := Aside0.mk (Kd.R_below (by (with_reducible repeat (first | apply Kd.R_alloc | apply Kd.R_drewN | apply Kd.R_drew)); exact HO317.out) hb); have n2_ := Aside0.mk (Kd.R_below (by (with_reducible repeat (first | apply Kd.R_alloc | apply Kd.R_drewN | apply Kd.R_drew)); exact HO328.out) hb); have n3_ := offertorylaw13_StatsTimes.keepB BK307 hb; have n4_ := offertorylaw13_StatsTimes.keepB BK325 hb; have n5_ := offertorylaw13_StatsTimes.keepB BK335 hb; have n6_ := Aside0.mk (below_step (by repeat (first | (with_reducible first | exact HB.out | apply below_alloc | apply pw_below_drewN | apply below_drew1 | refine below_set ?_ GE307.out | refine below_set ?_ GE325.out | refine below_set ?_ GE335.out) | exact HB.out)) hb); have n7_ := Aside0.mk (hbox); have n8_ := Aside0.mk ((by rw [hg]; exact (below_size (by repeat (first | (with_reducible first | exact HB.out | apply below_alloc | apply pw_below_drewN | apply below_drew1 | refine below_set ?_ GE307.out | refine below_set ?_ GE325.out | refine below_set ?_ GE335.out) | exact HB.out))) : w.heap.size ≤ gb344)); have n9_ := Aside0.mk ((by rw [hg]; exact (below_size (by repeat (first | (with_reducible first | exact HB.out | apply below_alloc | apply pw_below_drewN | apply below_drew1 | refine below_set ?_ GE307.out | refine below_set ?_ GE325.out | refine below_set ?_ GE335.out) | exact HB.out))) : w.heap.size ≤ gb344)); have n10_ := offertorylaw13_StatsTimes.neL BK307 hg; have n11_ := offertorylaw13_StatsTimes.neG BK307 hg; have n12_ := offertorylaw13_StatsTimes.neL BK325 hg; have n13_ := offertorylaw13_StatsTimes.neG BK325 hg; have n14_ := offertorylaw13_StatsTimes.neL BK335 hg; have n15_ := offertorylaw13_StatsTimes.neG BK335 hg; clear HO_7; clear HO317; clear HO328; clear BK307; clear BK325; clear BK335; clear HB; have HO_7 := n0_; have HO317 := n1_; have HO328 := n2_; have BK307 := n3_; have BK325 := n4_; have BK335 := n5_; have HB := n6_; have BK344 := n7_; have GW344 := n8_; have GE344 := n9_; have NB307_344 := n10_; have NB344_307 := n11_; have NB325_344 := n12_; have NB344_325 := n13_; have NB335_344 := n14_; have NB344_335 := n15_; clear n0_ n1_ n2_ n3_ n4_ n5_ n6_ n7_ n8_ n9_ n10_ n11_ n12_ n13_ n14_ n15_; clear hb hbox hg; have hnb64 := NB344_307.out; have hnc64 := NB307_344.out; have hnb65 := NB344_325.out; have hnc65 := NB325_344.out; have hnb66 := NB344_335.out; have hnc66 := NB335_344.out; have hcz67_0 : w63.cell? ⟨gb344, 0, none⟩ = some (.int .u32 0) := (blk_cell BK344.out 0).trans rfl; have hcz67_1 : w63.cell? ⟨gb344, 1, none⟩ = some (.int .u32 0) := (blk_cell BK344.out 1).trans rfl; have hcz67_2 : w63.cell? ⟨gb344, 2, none⟩ = some (.int .u32 0) := (blk_cell BK344.out 2).trans rfl; have hcz67_3 : w63.cell? ⟨gb344, 3, none⟩ = some (.int .u32 0) := (blk_cell BK344.out 3).trans rfl; have hcz67_4 : w63.cell? ⟨gb344, 4, none⟩ = some (.int .u32 0) := (blk_cell BK344.out 4).trans rfl; have hcz67_5 : w63.cell? ⟨gb344, 5, none⟩ = some (.int .u32 0) := (blk_cell BK344.out 5).trans rfl; have hcz67_6 : w63.cell? ⟨gb344, 6, none⟩ = some (.int .u32 0) := (blk_cell BK344.out 6).trans rfl; have hcz67_7 : w63.cell? ⟨gb344, 7, none⟩ = some (.int .u32 0) := (blk_cell BK344.out 7).trans rfl; have hfz67_0 := blk_frozen BK344.out 0; have hfz67_1 := blk_frozen BK344.out 1; have hfz67_2 := blk_frozen BK344.out 2; have hfz67_3 := blk_frozen BK344.out 3; have hfz67_4 := blk_frozen BK344.out 4; have hfz67_5 := blk_frozen BK344.out 5; have hfz67_6 := blk_frozen BK344.out 6; have hfz67_7 := blk_frozen BK344.out 7))
            have n0_ : Aside0 (Kd.R (Kd.int .u32) 43 ((((((((w63.setCell ⟨gb344, 0, none⟩ (.int .u32 t336)).setCell ⟨gb344, 1, none⟩ (.int .u32 t337)).setCell ⟨gb344, 2, none⟩ (.int .u32 t338)).setCell ⟨gb344, 3, none⟩ (.int .u32 t339)).setCell ⟨gb344, 4, none⟩ (.int .u32 t340)).setCell ⟨gb344, 5, none⟩ (.int .u32 t341)).setCell ⟨gb344, 6, none⟩ (.int .u32 t342)).setCell ⟨gb344, 7, none⟩ (.int .u32 t343)) w.heap.size (fun _ => True) (.slice Ao48 x7_2.length co48) x7_2) := ⟨by (with_reducible repeat (first | apply Kd.R_alloc | apply Kd.R_drewN | apply Kd.R_drew)); exact Kd.R_mono (Kd.R_far (p := ⟨gb344, 7, none⟩) (Kd.R_far (p := ⟨gb344, 6, none⟩) (Kd.R_far (p := ⟨gb344, 5, none⟩) (Kd.R_far (p := ⟨gb344, 4, none⟩) (Kd.R_far (p := ⟨gb344, 3, none⟩) (Kd.R_far (p := ⟨gb344, 2, none⟩) (Kd.R_far (p := ⟨gb344, 1, none⟩) (Kd.R_far (p := ⟨gb344, 0, none⟩) (Kd.R_types HO_7.out BK344.out (by decide)) (fun _ hk => hk.2) (.int .u32 t336)) (fun _ hk => hk.2) (.int .u32 t337)) (fun _ hk => hk.2) (.int .u32 t338)) (fun _ hk => hk.2) (.int .u32 t339)) (fun _ hk => hk.2) (.int .u32 t340)) (fun _ hk => hk.2) (.int .u32 t341)) (fun _ hk => hk.2) (.int .u32 t342)) (fun _ hk => hk.2) (.int .u32 t343)) (fun _ hk => trivial)⟩
            have n1_ : Aside0 (Kd.R (Kd.int .i64) 3 ((((((((w63.setCell ⟨gb344, 0, none⟩ (.int .u32 t336)).setCell ⟨gb344, 1, none⟩ (.int .u32 t337)).setCell ⟨gb344, 2, none⟩ (.int .u32 t338)).setCell ⟨gb344, 3, none⟩ (.int .u32 t339)).setCell ⟨gb344, 4, none⟩ (.int .u32 t340)).setCell ⟨gb344, 5, none⟩ (.int .u32 t341)).setCell ⟨gb344, 6, none⟩ (.int .u32 t342)).setCell ⟨gb344, 7, none⟩ (.int .u32 t343)) w.heap.size (fun k_ => some k_ ≠ (.slice Ao58 t326.length co58 : Value).ownBlock) (.slice Ao52 t315.length co52) t315) := ⟨by (with_reducible repeat (first | apply Kd.R_alloc | apply Kd.R_drewN | apply Kd.R_drew)); exact Kd.R_mono (Kd.R_far (p := ⟨gb344, 7, none⟩) (Kd.R_far (p := ⟨gb344, 6, none⟩) (Kd.R_far (p := ⟨gb344, 5, none⟩) (Kd.R_far (p := ⟨gb344, 4, none⟩) (Kd.R_far (p := ⟨gb344, 3, none⟩) (Kd.R_far (p := ⟨gb344, 2, none⟩) (Kd.R_far (p := ⟨gb344, 1, none⟩) (Kd.R_far (p := ⟨gb344, 0, none⟩) (Kd.R_types HO317.out BK344.out (by decide)) (fun _ hk => hk.2) (.int .u32 t336)) (fun _ hk => hk.2) (.int .u32 t337)) (fun _ hk => hk.2) (.int .u32 t338)) (fun _ hk => hk.2) (.int .u32 t339)) (fun _ hk => hk.2) (.int .u32 t340)) (fun _ hk => hk.2) (.int .u32 t341)) (fun _ hk => hk.2) (.int .u32 t342)) (fun _ hk => hk.2) (.int .u32 t343)) (fun _ hk => hk.1.2)⟩
            have n2_ : Aside0 (Kd.R (Kd.int .i64) 3 ((((((((w63.setCell ⟨gb344, 0, none⟩ (.int .u32 t336)).setCell ⟨gb344, 1, none⟩ (.int .u32 t337)).setCell ⟨gb344, 2, none⟩ (.int .u32 t338)).setCell ⟨gb344, 3, none⟩ (.int .u32 t339)).setCell ⟨gb344, 4, none⟩ (.int .u32 t340)).setCell ⟨gb344, 5, none⟩ (.int .u32 t341)).setCell ⟨gb344, 6, none⟩ (.int .u32 t342)).setCell ⟨gb344, 7, none⟩ (.int .u32 t343)) w.heap.size (fun k_ => some k_ ≠ (.slice Ao52 t315.length co52 : Value).ownBlock) (.slice Ao58 t326.length co58) t326) := ⟨by (with_reducible repeat (first | apply Kd.R_alloc | apply Kd.R_drewN | apply Kd.R_drew)); exact Kd.R_mono (Kd.R_far (p := ⟨gb344, 7, none⟩) (Kd.R_far (p := ⟨gb344, 6, none⟩) (Kd.R_far (p := ⟨gb344, 5, none⟩) (Kd.R_far (p := ⟨gb344, 4, none⟩) (Kd.R_far (p := ⟨gb344, 3, none⟩) (Kd.R_far (p := ⟨gb344, 2, none⟩) (Kd.R_far (p := ⟨gb344, 1, none⟩) (Kd.R_far (p := ⟨gb344, 0, none⟩) (Kd.R_types HO328.out BK344.out (by decide)) (fun _ hk => hk.2) (.int .u32 t336)) (fun _ hk => hk.2) (.int .u32 t337)) (fun _ hk => hk.2) (.int .u32 t338)) (fun _ hk => hk.2) (.int .u32 t339)) (fun _ hk => hk.2) (.int .u32 t340)) (fun _ hk => hk.2) (.int .u32 t341)) (fun _ hk => hk.2) (.int .u32 t342)) (fun _ hk => hk.2) (.int .u32 t343)) (fun _ hk => hk.1.2)⟩
            have n3_ : Aside0 (((((((((w63.setCell ⟨gb344, 0, none⟩ (.int .u32 t336)).setCell ⟨gb344, 1, none⟩ (.int .u32 t337)).setCell ⟨gb344, 2, none⟩ (.int .u32 t338)).setCell ⟨gb344, 3, none⟩ (.int .u32 t339)).setCell ⟨gb344, 4, none⟩ (.int .u32 t340)).setCell ⟨gb344, 5, none⟩ (.int .u32 t341)).setCell ⟨gb344, 6, none⟩ (.int .u32 t342)).setCell ⟨gb344, 7, none⟩ (.int .u32 t343)).heap[gb307]? = some (.cells #[.int .i64 a0_0, .int .i64 a0_1, .int .i64 a0_2, .slice A0_3 l0_3.length c0_3] 24 (0, 0))) := ⟨by (repeat (first | (with_reducible first | refine blk_drewN ?_ _ | refine blk_drew ?_ | refine blk_alloc ?_ _) | refine blk_far ?_ NB307_344.out _)); (with_reducible repeat (first | refine blk_drewN ?_ _ | refine blk_drew ?_ | refine blk_alloc ?_ _)); exact BK307.out⟩
            have n4_ : Aside0 (((((((((w63.setCell ⟨gb344, 0, none⟩ (.int .u32 t336)).setCell ⟨gb344, 1, none⟩ (.int .u32 t337)).setCell ⟨gb344, 2, none⟩ (.int .u32 t338)).setCell ⟨gb344, 3, none⟩ (.int .u32 t339)).setCell ⟨gb344, 4, none⟩ (.int .u32 t340)).setCell ⟨gb344, 5, none⟩ (.int .u32 t341)).setCell ⟨gb344, 6, none⟩ (.int .u32 t342)).setCell ⟨gb344, 7, none⟩ (.int .u32 t343)).heap[gb325]? = some (.cells #[.slice Ao52 t315.length co52, .int .i64 t318, .int .u64 t319, .int .u64 t320, .int .u64 t321, .int .u64 t322, .bool t323] 29 (0, 0))) := ⟨by (repeat (first | (with_reducible first | refine blk_drewN ?_ _ | refine blk_drew ?_ | refine blk_alloc ?_ _) | refine blk_far ?_ NB325_344.out _)); (with_reducible repeat (first | refine blk_drewN ?_ _ | refine blk_drew ?_ | refine blk_alloc ?_ _)); exact BK325.out⟩
            have n5_ : Aside0 (((((((((w63.setCell ⟨gb344, 0, none⟩ (.int .u32 t336)).setCell ⟨gb344, 1, none⟩ (.int .u32 t337)).setCell ⟨gb344, 2, none⟩ (.int .u32 t338)).setCell ⟨gb344, 3, none⟩ (.int .u32 t339)).setCell ⟨gb344, 4, none⟩ (.int .u32 t340)).setCell ⟨gb344, 5, none⟩ (.int .u32 t341)).setCell ⟨gb344, 6, none⟩ (.int .u32 t342)).setCell ⟨gb344, 7, none⟩ (.int .u32 t343)).heap[gb335]? = some (.cells #[.slice Ao58 t326.length co58, .int .i64 t329, .int .u64 t330, .int .u64 t331, .int .u64 t332, .int .u64 t333, .bool t334] 29 (0, 0))) := ⟨by (repeat (first | (with_reducible first | refine blk_drewN ?_ _ | refine blk_drew ?_ | refine blk_alloc ?_ _) | refine blk_far ?_ NB335_344.out _)); (with_reducible repeat (first | refine blk_drewN ?_ _ | refine blk_drew ?_ | refine blk_alloc ?_ _)); exact BK335.out⟩
            have n6_ : Aside0 (((((((((w63.setCell ⟨gb344, 0, none⟩ (.int .u32 t336)).setCell ⟨gb344, 1, none⟩ (.int .u32 t337)).setCell ⟨gb344, 2, none⟩ (.int .u32 t338)).setCell ⟨gb344, 3, none⟩ (.int .u32 t339)).setCell ⟨gb344, 4, none⟩ (.int .u32 t340)).setCell ⟨gb344, 5, none⟩ (.int .u32 t341)).setCell ⟨gb344, 6, none⟩ (.int .u32 t342)).setCell ⟨gb344, 7, none⟩ (.int .u32 t343)).heap[gb344]? = some (.cells #[.int .u32 t336, .int .u32 t337, .int .u32 t338, .int .u32 t339, .int .u32 t340, .int .u32 t341, .int .u32 t342, .int .u32 t343] 45 (0, 0))) := ⟨by (with_reducible repeat (first | refine blk_drewN ?_ _ | refine blk_drew ?_ | refine blk_alloc ?_ _)); refine blk_put (cs := #[.int .u32 t336, .int .u32 t337, .int .u32 t338, .int .u32 t339, .int .u32 t340, .int .u32 t341, .int .u32 t342, .int .u32 0]) ?_ 7 _ rfl; (with_reducible repeat (first | refine blk_drewN ?_ _ | refine blk_drew ?_ | refine blk_alloc ?_ _)); refine blk_put (cs := #[.int .u32 t336, .int .u32 t337, .int .u32 t338, .int .u32 t339, .int .u32 t340, .int .u32 t341, .int .u32 0, .int .u32 0]) ?_ 6 _ rfl; (with_reducible repeat (first | refine blk_drewN ?_ _ | refine blk_drew ?_ | refine blk_alloc ?_ _)); refine blk_put (cs := #[.int .u32 t336, .int .u32 t337, .int .u32 t338, .int .u32 t339, .int .u32 t340, .int .u32 0, .int .u32 0, .int .u32 0]) ?_ 5 _ rfl; (with_reducible repeat (first | refine blk_drewN ?_ _ | refine blk_drew ?_ | refine blk_alloc ?_ _)); refine blk_put (cs := #[.int .u32 t336, .int .u32 t337, .int .u32 t338, .int .u32 t339, .int .u32 0, .int .u32 0, .int .u32 0, .int .u32 0]) ?_ 4 _ rfl; (with_reducible repeat (first | refine blk_drewN ?_ _ | refine blk_drew ?_ | refine blk_alloc ?_ _)); refine blk_put (cs := #[.int .u32 t336, .int .u32 t337, .int .u32 t338, .int .u32 0, .int .u32 0, .int .u32 0, .int .u32 0, .int .u32 0]) ?_ 3 _ rfl; (with_reducible repeat (first | refine blk_drewN ?_ _ | refine blk_drew ?_ | refine blk_alloc ?_ _)); refine blk_put (cs := #[.int .u32 t336, .int .u32 t337, .int .u32 0, .int .u32 0, .int .u32 0, .int .u32 0, .int .u32 0, .int .u32 0]) ?_ 2 _ rfl; (with_reducible repeat (first | refine blk_drewN ?_ _ | refine blk_drew ?_ | refine blk_alloc ?_ _)); refine blk_put (cs := #[.int .u32 t336, .int .u32 0, .int .u32 0, .int .u32 0, .int .u32 0, .int .u32 0, .int .u32 0, .int .u32 0]) ?_ 1 _ rfl; (with_reducible repeat (first | refine blk_drewN ?_ _ | refine blk_drew ?_ | refine blk_alloc ?_ _)); refine blk_put (cs := #[.int .u32 0, .int .u32 0, .int .u32 0, .int .u32 0, .int .u32 0, .int .u32 0, .int .u32 0, .int .u32 0]) ?_ 0 _ rfl; (with_reducible repeat (first | refine blk_drewN ?_ _ | refine blk_drew ?_ | refine blk_alloc ?_ _)); exact BK344.out⟩
            have n7_ : Aside0 (Below w.heap.size w ((((((((w63.setCell ⟨gb344, 0, none⟩ (.int .u32 t336)).setCell ⟨gb344, 1, none⟩ (.int .u32 t337)).setCell ⟨gb344, 2, none⟩ (.int .u32 t338)).setCell ⟨gb344, 3, none⟩ (.int .u32 t339)).setCell ⟨gb344, 4, none⟩ (.int .u32 t340)).setCell ⟨gb344, 5, none⟩ (.int .u32 t341)).setCell ⟨gb344, 6, none⟩ (.int .u32 t342)).setCell ⟨gb344, 7, none⟩ (.int .u32 t343))) := ⟨by repeat (first | (with_reducible first | exact HB.out | apply below_alloc | apply pw_below_drewN | apply below_drew1 | refine below_set ?_ GE307.out | refine below_set ?_ GE325.out | refine below_set ?_ GE335.out | refine below_set ?_ GE344.out) | exact HB.out)⟩
            (try clear HO_7)
            (try clear HO317)
            (try clear HO328)
            (try clear BK307)
            (try clear BK325)
            (try clear BK335)
            (try clear BK344)
            (try clear HB)
            generalize ((((((((w63.setCell ⟨gb344, 0, none⟩ (.int .u32 t336)).setCell ⟨gb344, 1, none⟩ (.int .u32 t337)).setCell ⟨gb344, 2, none⟩ (.int .u32 t338)).setCell ⟨gb344, 3, none⟩ (.int .u32 t339)).setCell ⟨gb344, 4, none⟩ (.int .u32 t340)).setCell ⟨gb344, 5, none⟩ (.int .u32 t341)).setCell ⟨gb344, 6, none⟩ (.int .u32 t342)).setCell ⟨gb344, 7, none⟩ (.int .u32 t343)) = w68 at n0_ n1_ n2_ n3_ n4_ n5_ n6_ n7_ ⊢
            have HO_7 := n0_
            have HO317 := n1_
            have HO328 := n2_
            have BK307 := n3_
            have BK325 := n4_
            have BK335 := n5_
            have BK344 := n6_
            have HB := n7_
            clear n0_ n1_ n2_ n3_ n4_ n5_ n6_ n7_
            have n0_ := Aside0.mk (Kd.R_drew HO_7.out)
            have n1_ := Aside0.mk (Kd.R_drew HO317.out)
            have n2_ := Aside0.mk (Kd.R_drew HO328.out)
            have n3_ := Aside0.mk (blk_drew BK307.out)
            have n4_ := Aside0.mk (blk_drew BK325.out)
            have n5_ := Aside0.mk (blk_drew BK335.out)
            have n6_ := Aside0.mk (blk_drew BK344.out)
            have n7_ := Aside0.mk (below_drew1 HB.out)
            clear HO_7
            clear HO317
            clear HO328
            clear BK307
            clear BK325
            clear BK335
            clear BK344
            clear HB
            have HO_7 := n0_
            have HO317 := n1_
            have HO328 := n2_
            have BK307 := n3_
            have BK325 := n4_
            have BK335 := n5_
            have BK344 := n6_
            have HB := n7_
            clear n0_ n1_ n2_ n3_ n4_ n5_ n6_ n7_
            refine start_ (n := 45) (S := fun w' => w'.cell? ⟨gb325, 0, none⟩ = some (.slice Ao52 t315.length co52) ∧ w'.cell? ⟨gb325, 1, none⟩ = some (.int .i64 t318) ∧ w'.cell? ⟨gb325, 2, none⟩ = some (.int .u64 t319) ∧ w'.cell? ⟨gb325, 3, none⟩ = some (.int .u64 t320) ∧ w'.cell? ⟨gb325, 4, none⟩ = some (.int .u64 t321) ∧ w'.cell? ⟨gb325, 5, none⟩ = some (.int .u64 t322) ∧ w'.cell? ⟨gb325, 6, none⟩ = some (.bool t323) ∧ w'.cell? ⟨gb335, 0, none⟩ = some (.slice Ao58 t326.length co58) ∧ w'.cell? ⟨gb335, 1, none⟩ = some (.int .i64 t329) ∧ w'.cell? ⟨gb335, 2, none⟩ = some (.int .u64 t330) ∧ w'.cell? ⟨gb335, 3, none⟩ = some (.int .u64 t331) ∧ w'.cell? ⟨gb335, 4, none⟩ = some (.int .u64 t332) ∧ w'.cell? ⟨gb335, 5, none⟩ = some (.int .u64 t333) ∧ w'.cell? ⟨gb335, 6, none⟩ = some (.bool t334) ∧ w'.cell? ⟨gb344, 0, none⟩ = some (.int .u32 t336) ∧ w'.cell? ⟨gb344, 1, none⟩ = some (.int .u32 t337) ∧ w'.cell? ⟨gb344, 2, none⟩ = some (.int .u32 t338) ∧ w'.cell? ⟨gb344, 3, none⟩ = some (.int .u32 t339) ∧ w'.cell? ⟨gb344, 4, none⟩ = some (.int .u32 t340) ∧ w'.cell? ⟨gb344, 5, none⟩ = some (.int .u32 t341) ∧ w'.cell? ⟨gb344, 6, none⟩ = some (.int .u32 t342) ∧ w'.cell? ⟨gb344, 7, none⟩ = some (.int .u32 t343)) (ds := []) #[F, F, F, F, F, F, F, F, F, F, F, F, F, F, F, F, F, F, F, F, F, F, F, F, F, F, F, F, F, F, F, F, F, F, F, F, F, F, F, F, F, F, F, F, F] (by kernel_rfl) rfl rfl ⟨(blk_cell BK325.out 0).trans rfl, (blk_cell BK325.out 1).trans rfl, (blk_cell BK325.out 2).trans rfl, (blk_cell BK325.out 3).trans rfl, (blk_cell BK325.out 4).trans rfl, (blk_cell BK325.out 5).trans rfl, (blk_cell BK325.out 6).trans rfl, (blk_cell BK335.out 0).trans rfl, (blk_cell BK335.out 1).trans rfl, (blk_cell BK335.out 2).trans rfl, (blk_cell BK335.out 3).trans rfl, (blk_cell BK335.out 4).trans rfl, (blk_cell BK335.out 5).trans rfl, (blk_cell BK335.out 6).trans rfl, (blk_cell BK344.out 0).trans rfl, (blk_cell BK344.out 1).trans rfl, (blk_cell BK344.out 2).trans rfl, (blk_cell BK344.out 3).trans rfl, (blk_cell BK344.out 4).trans rfl, (blk_cell BK344.out 5).trans rfl, (blk_cell BK344.out 6).trans rfl, (blk_cell BK344.out 7).trans rfl⟩ (fun hHeld => ?_); refine with_tabW offertorylaw13_StatsTimes.tab11 offertorylaw13_StatsTimes.bits11 (fun HT_ HW_ => ?_)
            generalize w68.drew = w69 at HO_7 HO317 HO328 BK307 BK325 BK335 BK344 HB hHeld ⊢
            refine one_ (i := 0) (N := some 69) #[T, F, F, F, F, F, F, F, F, F, F, F, F, F, F, F, F, F, F, F, F, F, F, F, F, F, F, F, F, F, F, F, F, F, F, F, F, F, F, F, F, F, F, F, F] rfl rfl (one_of HT_.out (by kernel_rfl)) (by decide) (fun K hK => ?_)
            refine goes_ Try.func10 (by kernel_rfl) rfl #[] (by rfl) rfl rfl (by (try simp only [List.map_toArray, List.map_cons, List.map_nil]); first | done | rfl | (simp only [List.length_drop, List.length_take]; rfl)) ?_
            with_reducible refine (offertorylaw13_awake.calls k2  true _ A36.out).mono ?_
            rintro e w70 ⟨rfl, hb⟩
            refine ⟨_, rfl, ?_⟩
            have n0_ := Aside0.mk (Kd.R_below (by (with_reducible repeat (first | apply Kd.R_alloc | apply Kd.R_drewN | apply Kd.R_drew)); exact HO_7.out) hb)
            have n1_ := Aside0.mk (Kd.R_below (by (with_reducible repeat (first | apply Kd.R_alloc | apply Kd.R_drewN | apply Kd.R_drew)); exact HO317.out) hb)
            have n2_ := Aside0.mk (Kd.R_below (by (with_reducible repeat (first | apply Kd.R_alloc | apply Kd.R_drewN | apply Kd.R_drew)); exact HO328.out) hb)
            have n3_ := offertorylaw13_StatsTimes.keepB BK307 hb
            have n4_ := offertorylaw13_StatsTimes.keepB BK325 hb
            have n5_ := offertorylaw13_StatsTimes.keepB BK335 hb
            have n6_ := offertorylaw13_StatsTimes.keepB BK344 hb
            have n7_ := Aside0.mk (below_step (by repeat (first | (with_reducible first | exact HB.out | apply below_alloc | apply pw_below_drewN | apply below_drew1 | refine below_set ?_ GE307.out | refine below_set ?_ GE325.out | refine below_set ?_ GE335.out | refine below_set ?_ GE344.out) | exact HB.out)) hb)
            clear HO_7
            clear HO317
            clear HO328
            clear BK307
            clear BK325
            clear BK335
            clear BK344
            clear HB
            have HO_7 := n0_
            have HO317 := n1_
            have HO328 := n2_
            have BK307 := n3_
            have BK325 := n4_
            have BK335 := n5_
            have BK344 := n6_
            have HB := n7_
            clear n0_ n1_ n2_ n3_ n4_ n5_ n6_ n7_
            (try clear hb)
            (try clear hb2)
            (try clear hk)
            (try clear hi)
            refine hK.out _ _ ⟨(blk_cell BK325.out 0).trans rfl, (blk_cell BK325.out 1).trans rfl, (blk_cell BK325.out 2).trans rfl, (blk_cell BK325.out 3).trans rfl, (blk_cell BK325.out 4).trans rfl, (blk_cell BK325.out 5).trans rfl, (blk_cell BK325.out 6).trans rfl, (blk_cell BK335.out 0).trans rfl, (blk_cell BK335.out 1).trans rfl, (blk_cell BK335.out 2).trans rfl, (blk_cell BK335.out 3).trans rfl, (blk_cell BK335.out 4).trans rfl, (blk_cell BK335.out 5).trans rfl, (blk_cell BK335.out 6).trans rfl, (blk_cell BK344.out 0).trans rfl, (blk_cell BK344.out 1).trans rfl, (blk_cell BK344.out 2).trans rfl, (blk_cell BK344.out 3).trans rfl, (blk_cell BK344.out 4).trans rfl, (blk_cell BK344.out 5).trans rfl, (blk_cell BK344.out 6).trans rfl, (blk_cell BK344.out 7).trans rfl⟩ (fun hHeld => ?_)
            clear hK K
            refine norm_ (a' := ?_) ?_ ?_
            rotate_left
            ·
             show Act.put _ (some 69) _ = _
             simp only [Act.put, List.setIfInBounds_toArray, List.set_cons_zero, List.set_cons_succ, i64_w, i32_w]
             rfl
            refine pure_ (i := 1) (N := some 70) (v := ?_) (a' := ?_) #[T, T, F, F, F, F, F, F, F, F, F, F, F, F, F, F, F, F, F, F, F, F, F, F, F, F, F, F, F, F, F, F, F, F, F, F, F, F, F, F, F, F, F, F, F] rfl rfl (any_of HT_.out (by kernel_rfl)) (fun _ _ _ h => h) (Or.inl ⟨by rfl, ?_⟩) ?_ ?_
            rotate_left
            ·
             intro w'
             (try simp only [add_plain] at s0 s1 s2 s3 s4 s5 s6 s7 s8 s9 s10 s11 s12 s13 s14 s15 s16 s17 s18 s19 s20 s21)
             go_simp
             with_reducible rfl
            rotate_left
            ·
             simp only [Act.put, List.setIfInBounds_toArray, List.set_cons_zero, List.set_cons_succ, i64_w, i32_w]
             rfl
            refine pure_ (i := 2) (N := some 71) (v := ?_) (a' := ?_) #[T, T, T, F, F, F, F, F, F, F, F, F, F, F, F, F, F, F, F, F, F, F, F, F, F, F, F, F, F, F, F, F, F, F, F, F, F, F, F, F, F, F, F, F, F] rfl rfl (any_of HT_.out (by kernel_rfl)) (fun _ _ _ h => h) (Or.inl ⟨by rfl, ?_⟩) ?_ ?_
            rotate_left
            ·
             intro w'
             (try simp only [add_plain] at s0 s1 s2 s3 s4 s5 s6 s7 s8 s9 s10 s11 s12 s13 s14 s15 s16 s17 s18 s19 s20 s21)
             go_simp
             with_reducible rfl
            rotate_left
            ·
             simp only [Act.put, List.setIfInBounds_toArray, List.set_cons_zero, List.set_cons_succ, i64_w, i32_w]
             rfl
            refine pure_ (i := 3) (N := some 72) (v := ?_) (a' := ?_) #[T, T, T, T, F, F, F, F, F, F, F, F, F, F, F, F, F, F, F, F, F, F, F, F, F, F, F, F, F, F, F, F, F, F, F, F, F, F, F, F, F, F, F, F, F] rfl rfl (any_of HT_.out (by kernel_rfl)) (fun _ _ _ h => h) (Or.inl ⟨by rfl, ?_⟩) ?_ ?_
            rotate_left
            ·
             intro w'
             (try simp only [add_plain] at s0 s1 s2 s3 s4 s5 s6 s7 s8 s9 s10 s11 s12 s13 s14 s15 s16 s17 s18 s19 s20 s21)
             go_simp
             with_reducible rfl
            rotate_left
            ·
             simp only [Act.put, List.setIfInBounds_toArray, List.set_cons_zero, List.set_cons_succ, i64_w, i32_w]
             rfl
            refine pure_ (i := 4) (N := some 73) (v := ?_) (a' := ?_) #[T, T, T, T, T, F, F, F, F, F, F, F, F, F, F, F, F, F, F, F, F, F, F, F, F, F, F, F, F, F, F, F, F, F, F, F, F, F, F, F, F, F, F, F, F] rfl rfl (any_of HT_.out (by kernel_rfl)) (fun _ _ _ h => h) (Or.inl ⟨by rfl, ?_⟩) ?_ ?_
            rotate_left
            ·
             intro w'
             (try simp only [add_plain] at s0 s1 s2 s3 s4 s5 s6 s7 s8 s9 s10 s11 s12 s13 s14 s15 s16 s17 s18 s19 s20 s21)
             go_simp
             with_reducible rfl
            rotate_left
            ·
             simp only [Act.put, List.setIfInBounds_toArray, List.set_cons_zero, List.set_cons_succ, i64_w, i32_w]
             rfl
            refine pure_ (i := 5) (N := some 74) (v := ?_) (a' := ?_) #[T, T, T, T, T, T, F, F, F, F, F, F, F, F, F, F, F, F, F, F, F, F, F, F, F, F, F, F, F, F, F, F, F, F, F, F, F, F, F, F, F, F, F, F, F] rfl rfl (any_of HT_.out (by kernel_rfl)) (fun _ _ _ h => h) (Or.inl ⟨by rfl, ?_⟩) ?_ ?_
            rotate_left
            ·
             intro w'
             (try simp only [add_plain] at s0 s1 s2 s3 s4 s5 s6 s7 s8 s9 s10 s11 s12 s13 s14 s15 s16 s17 s18 s19 s20 s21)
             go_simp
             with_reducible rfl
            rotate_left
            ·
             simp only [Act.put, List.setIfInBounds_toArray, List.set_cons_zero, List.set_cons_succ, i64_w, i32_w]
             rfl
            refine pure_ (i := 6) (N := some 75) (v := ?_) (a' := ?_) #[T, T, T, T, T, T, T, F, F, F, F, F, F, F, F, F, F, F, F, F, F, F, F, F, F, F, F, F, F, F, F, F, F, F, F, F, F, F, F, F, F, F, F, F, F] rfl rfl (any_of HT_.out (by kernel_rfl)) (fun _ _ _ h => h) (Or.inl ⟨by rfl, ?_⟩) ?_ ?_
            rotate_left
            ·
             intro w'
             (try simp only [add_plain] at s0 s1 s2 s3 s4 s5 s6 s7 s8 s9 s10 s11 s12 s13 s14 s15 s16 s17 s18 s19 s20 s21)
             go_simp
             with_reducible rfl
            rotate_left
            ·
             simp only [Act.put, List.setIfInBounds_toArray, List.set_cons_zero, List.set_cons_succ, i64_w, i32_w]
             rfl
            refine pure_ (i := 8) (N := some 77) (v := ?_) (a' := ?_) #[T, T, T, T, T, T, T, F, T, F, F, F, F, F, F, F, F, F, F, F, F, F, F, F, F, F, F, F, F, F, F, F, F, F, F, F, F, F, F, F, F, F, F, F, F] rfl rfl (any_of HT_.out (by kernel_rfl)) (fun _ _ _ h => h) (Or.inl ⟨by rfl, ?_⟩) ?_ ?_
            rotate_left
            ·
             intro w'
             (try simp only [add_plain] at s0 s1 s2 s3 s4 s5 s6 s7 s8 s9 s10 s11 s12 s13 s14 s15 s16 s17 s18 s19 s20 s21)
             go_simp
             with_reducible rfl
            rotate_left
            ·
             simp only [Act.put, List.setIfInBounds_toArray, List.set_cons_zero, List.set_cons_succ, i64_w, i32_w]
             rfl
            refine pure_ (i := 9) (N := some 78) (v := ?_) (a' := ?_) #[T, T, T, T, T, T, T, F, T, T, F, F, F, F, F, F, F, F, F, F, F, F, F, F, F, F, F, F, F, F, F, F, F, F, F, F, F, F, F, F, F, F, F, F, F] rfl rfl (any_of HT_.out (by kernel_rfl)) (fun _ _ _ h => h) (Or.inl ⟨by rfl, ?_⟩) ?_ ?_
            rotate_left
            ·
             intro w'
             (try simp only [add_plain] at s0 s1 s2 s3 s4 s5 s6 s7 s8 s9 s10 s11 s12 s13 s14 s15 s16 s17 s18 s19 s20 s21)
             go_simp
             with_reducible rfl
            rotate_left
            ·
             simp only [Act.put, List.setIfInBounds_toArray, List.set_cons_zero, List.set_cons_succ, i64_w, i32_w]
             rfl
            refine pure_ (i := 10) (N := some 79) (v := ?_) (a' := ?_) #[T, T, T, T, T, T, T, F, T, T, T, F, F, F, F, F, F, F, F, F, F, F, F, F, F, F, F, F, F, F, F, F, F, F, F, F, F, F, F, F, F, F, F, F, F] rfl rfl (any_of HT_.out (by kernel_rfl)) (fun _ _ _ h => h) (Or.inl ⟨by rfl, ?_⟩) ?_ ?_
            rotate_left
            ·
             intro w'
             (try simp only [add_plain] at s0 s1 s2 s3 s4 s5 s6 s7 s8 s9 s10 s11 s12 s13 s14 s15 s16 s17 s18 s19 s20 s21)
             go_simp
             with_reducible rfl
            rotate_left
            ·
             simp only [Act.put, List.setIfInBounds_toArray, List.set_cons_zero, List.set_cons_succ, i64_w, i32_w]
             rfl
            refine pure_ (i := 11) (N := some 80) (v := ?_) (a' := ?_) #[T, T, T, T, T, T, T, F, T, T, T, T, F, F, F, F, F, F, F, F, F, F, F, F, F, F, F, F, F, F, F, F, F, F, F, F, F, F, F, F, F, F, F, F, F] rfl rfl (any_of HT_.out (by kernel_rfl)) (fun _ _ _ h => h) (Or.inl ⟨by rfl, ?_⟩) ?_ ?_
            rotate_left
            ·
             intro w'
             (try simp only [add_plain] at s0 s1 s2 s3 s4 s5 s6 s7 s8 s9 s10 s11 s12 s13 s14 s15 s16 s17 s18 s19 s20 s21)
             go_simp
             with_reducible rfl
            rotate_left
            ·
             simp only [Act.put, List.setIfInBounds_toArray, List.set_cons_zero, List.set_cons_succ, i64_w, i32_w]
             rfl
            refine pure_ (i := 12) (N := some 81) (v := ?_) (a' := ?_) #[T, T, T, T, T, T, T, F, T, T, T, T, T, F, F, F, F, F, F, F, F, F, F, F, F, F, F, F, F, F, F, F, F, F, F, F, F, F, F, F, F, F, F, F, F] rfl rfl (any_of HT_.out (by kernel_rfl)) (fun _ _ _ h => h) (Or.inl ⟨by rfl, ?_⟩) ?_ ?_
            rotate_left
            ·
             intro w'
             (try simp only [add_plain] at s0 s1 s2 s3 s4 s5 s6 s7 s8 s9 s10 s11 s12 s13 s14 s15 s16 s17 s18 s19 s20 s21)
             go_simp
             with_reducible rfl
            rotate_left
            ·
             simp only [Act.put, List.setIfInBounds_toArray, List.set_cons_zero, List.set_cons_succ, i64_w, i32_w]
             rfl
            refine take_ (i := 7) (N := some 76) (v := ?_) (a' := ?_) #[T, T, T, T, T, T, T, T, T, T, T, T, T, F, F, F, F, F, F, F, F, F, F, F, F, F, F, F, F, F, F, F, F, F, F, F, F, F, F, F, F, F, F, F, F] rfl rfl (take_ofW HT_.out HW_.out (by kernel_rfl)) (fun _ _ _ h => h) (Or.inl ⟨by rfl, ?_⟩) hHeld ?_ ?_
            rotate_left
            ·
             rintro w' ⟨s0, s1, s2, s3, s4, s5, s6, s7, s8, s9, s10, s11, s12, s13, s14, s15, s16, s17, s18, s19, s20, s21⟩
             (try simp only [add_plain] at s0 s1 s2 s3 s4 s5 s6 s7 s8 s9 s10 s11 s12 s13 s14 s15 s16 s17 s18 s19 s20 s21)
             go_simp
             with_reducible rfl
            rotate_left
            ·
             simp only [Act.put, List.setIfInBounds_toArray, List.set_cons_zero, List.set_cons_succ, i64_w, i32_w]
             rfl
            refine pure_ (i := 13) (N := some 82) (v := ?_) (a' := ?_) #[T, T, T, T, T, T, T, T, T, T, T, T, T, T, F, F, F, F, F, F, F, F, F, F, F, F, F, F, F, F, F, F, F, F, F, F, F, F, F, F, F, F, F, F, F] rfl rfl (any_of HT_.out (by kernel_rfl)) (fun _ _ _ h => h) (Or.inl ⟨by rfl, ?_⟩) ?_ ?_
            rotate_left
            ·
             intro w'
             (try simp only [add_plain] at s0 s1 s2 s3 s4 s5 s6 s7 s8 s9 s10 s11 s12 s13 s14 s15 s16 s17 s18 s19 s20 s21)
             go_simp
             with_reducible rfl
            rotate_left
            ·
             simp only [Act.put, List.setIfInBounds_toArray, List.set_cons_zero, List.set_cons_succ, i64_w, i32_w]
             rfl
            refine pure_ (i := 14) (N := some 83) (v := ?_) (a' := ?_) #[T, T, T, T, T, T, T, T, T, T, T, T, T, T, T, F, F, F, F, F, F, F, F, F, F, F, F, F, F, F, F, F, F, F, F, F, F, F, F, F, F, F, F, F, F] rfl rfl (any_of HT_.out (by kernel_rfl)) (fun _ _ _ h => h) (Or.inl ⟨by rfl, ?_⟩) ?_ ?_
            rotate_left
            ·
             intro w'
             (try simp only [add_plain] at s0 s1 s2 s3 s4 s5 s6 s7 s8 s9 s10 s11 s12 s13 s14 s15 s16 s17 s18 s19 s20 s21)
             go_simp
             with_reducible rfl
            rotate_left
            ·
             simp only [Act.put, List.setIfInBounds_toArray, List.set_cons_zero, List.set_cons_succ, i64_w, i32_w]
             rfl
            refine pure_ (i := 15) (N := some 84) (v := ?_) (a' := ?_) #[T, T, T, T, T, T, T, T, T, T, T, T, T, T, T, T, F, F, F, F, F, F, F, F, F, F, F, F, F, F, F, F, F, F, F, F, F, F, F, F, F, F, F, F, F] rfl rfl (any_of HT_.out (by kernel_rfl)) (fun _ _ _ h => h) (Or.inl ⟨by rfl, ?_⟩) ?_ ?_
            rotate_left
            ·
             intro w'
             (try simp only [add_plain] at s0 s1 s2 s3 s4 s5 s6 s7 s8 s9 s10 s11 s12 s13 s14 s15 s16 s17 s18 s19 s20 s21)
             go_simp
             with_reducible rfl
            rotate_left
            ·
             simp only [Act.put, List.setIfInBounds_toArray, List.set_cons_zero, List.set_cons_succ, i64_w, i32_w]
             rfl
            refine pure_ (i := 16) (N := some 85) (v := ?_) (a' := ?_) #[T, T, T, T, T, T, T, T, T, T, T, T, T, T, T, T, T, F, F, F, F, F, F, F, F, F, F, F, F, F, F, F, F, F, F, F, F, F, F, F, F, F, F, F, F] rfl rfl (any_of HT_.out (by kernel_rfl)) (fun _ _ _ h => h) (Or.inl ⟨by rfl, ?_⟩) ?_ ?_
            rotate_left
            ·
             intro w'
             (try simp only [add_plain] at s0 s1 s2 s3 s4 s5 s6 s7 s8 s9 s10 s11 s12 s13 s14 s15 s16 s17 s18 s19 s20 s21)
             go_simp
             with_reducible rfl
            rotate_left
            ·
             simp only [Act.put, List.setIfInBounds_toArray, List.set_cons_zero, List.set_cons_succ, i64_w, i32_w]
             rfl
            refine pure_ (i := 18) (N := some 87) (v := ?_) (a' := ?_) #[T, T, T, T, T, T, T, T, T, T, T, T, T, T, T, T, T, F, T, F, F, F, F, F, F, F, F, F, F, F, F, F, F, F, F, F, F, F, F, F, F, F, F, F, F] rfl rfl (any_of HT_.out (by kernel_rfl)) (fun _ _ _ h => h) (Or.inl ⟨by rfl, ?_⟩) ?_ ?_
            rotate_left
            ·
             intro w'
             (try simp only [add_plain] at s0 s1 s2 s3 s4 s5 s6 s7 s8 s9 s10 s11 s12 s13 s14 s15 s16 s17 s18 s19 s20 s21)
             go_simp
             with_reducible rfl
            rotate_left
            ·
             simp only [Act.put, List.setIfInBounds_toArray, List.set_cons_zero, List.set_cons_succ, i64_w, i32_w]
             rfl
            refine take_ (i := 17) (N := some 86) (v := ?_) (a' := ?_) #[T, T, T, T, T, T, T, T, T, T, T, T, T, T, T, T, T, T, T, F, F, F, F, F, F, F, F, F, F, F, F, F, F, F, F, F, F, F, F, F, F, F, F, F, F] rfl rfl (take_ofW HT_.out HW_.out (by kernel_rfl)) (fun _ _ _ h => h) (Or.inl ⟨by rfl, ?_⟩) hHeld ?_ ?_
            rotate_left
            ·
             rintro w' ⟨s0, s1, s2, s3, s4, s5, s6, s7, s8, s9, s10, s11, s12, s13, s14, s15, s16, s17, s18, s19, s20, s21⟩
             (try simp only [add_plain] at s0 s1 s2 s3 s4 s5 s6 s7 s8 s9 s10 s11 s12 s13 s14 s15 s16 s17 s18 s19 s20 s21)
             go_simp
             with_reducible rfl
            rotate_left
            ·
             simp only [Act.put, List.setIfInBounds_toArray, List.set_cons_zero, List.set_cons_succ, i64_w, i32_w]
             rfl
            refine take_ (i := 19) (N := some 88) (v := ?_) (a' := ?_) #[T, T, T, T, T, T, T, T, T, T, T, T, T, T, T, T, T, T, T, T, F, F, F, F, F, F, F, F, F, F, F, F, F, F, F, F, F, F, F, F, F, F, F, F, F] rfl rfl (take_ofW HT_.out HW_.out (by kernel_rfl)) (fun _ _ _ h => h) (Or.inl ⟨by rfl, ?_⟩) hHeld ?_ ?_
            rotate_left
            ·
             rintro w' ⟨s0, s1, s2, s3, s4, s5, s6, s7, s8, s9, s10, s11, s12, s13, s14, s15, s16, s17, s18, s19, s20, s21⟩
             (try simp only [add_plain] at s0 s1 s2 s3 s4 s5 s6 s7 s8 s9 s10 s11 s12 s13 s14 s15 s16 s17 s18 s19 s20 s21)
             go_simp
             with_reducible rfl
            rotate_left
            ·
             simp only [Act.put, List.setIfInBounds_toArray, List.set_cons_zero, List.set_cons_succ, i64_w, i32_w]
             rfl
            refine take_ (i := 21) (N := some 90) (v := ?_) (a' := ?_) #[T, T, T, T, T, T, T, T, T, T, T, T, T, T, T, T, T, T, T, T, F, T, F, F, F, F, F, F, F, F, F, F, F, F, F, F, F, F, F, F, F, F, F, F, F] rfl rfl (take_ofW HT_.out HW_.out (by kernel_rfl)) (fun _ _ _ h => h) (Or.inl ⟨by rfl, ?_⟩) hHeld ?_ ?_
            rotate_left
            ·
             rintro w' ⟨s0, s1, s2, s3, s4, s5, s6, s7, s8, s9, s10, s11, s12, s13, s14, s15, s16, s17, s18, s19, s20, s21⟩
             (try simp only [add_plain] at s0 s1 s2 s3 s4 s5 s6 s7 s8 s9 s10 s11 s12 s13 s14 s15 s16 s17 s18 s19 s20 s21)
             go_simp
             with_reducible rfl
            rotate_left
            ·
             simp only [Act.put, List.setIfInBounds_toArray, List.set_cons_zero, List.set_cons_succ, i64_w, i32_w]
             rfl
            refine one_ (i := 20) (N := some 89) #[T, T, T, T, T, T, T, T, T, T, T, T, T, T, T, T, T, T, T, T, T, T, F, F, F, F, F, F, F, F, F, F, F, F, F, F, F, F, F, F, F, F, F, F, F] rfl rfl (one_of HT_.out (by kernel_rfl)) (by decide) (fun K hK => ?_)
            refine goes_ Try.func18 (by kernel_rfl) rfl #[.agg #[.int .u64 t330, .int .u64 t331]] (by rfl) rfl rfl (by (try simp only [List.map_toArray, List.map_cons, List.map_nil]); first | done | rfl | (simp only [List.length_drop, List.length_take]; rfl)) ?_
            with_reducible refine (offertoryref09_Of.calls t330 t331 t346 t347 t348 t349 t350 t351 t352 t353 _ A40.out).mono ?_
            rintro e w71 ⟨rfl, hb⟩
            refine ⟨_, rfl, ?_⟩
            have n0_ := Aside0.mk (Kd.R_below (by (with_reducible repeat (first | apply Kd.R_alloc | apply Kd.R_drewN | apply Kd.R_drew)); exact HO_7.out) hb)
            have n1_ := Aside0.mk (Kd.R_below (by (with_reducible repeat (first | apply Kd.R_alloc | apply Kd.R_drewN | apply Kd.R_drew)); exact HO317.out) hb)
            have n2_ := Aside0.mk (Kd.R_below (by (with_reducible repeat (first | apply Kd.R_alloc | apply Kd.R_drewN | apply Kd.R_drew)); exact HO328.out) hb)
            have n3_ := offertorylaw13_StatsTimes.keepB BK307 hb
            have n4_ := offertorylaw13_StatsTimes.keepB BK325 hb
            have n5_ := offertorylaw13_StatsTimes.keepB BK335 hb
            have n6_ := offertorylaw13_StatsTimes.keepB BK344 hb
            have n7_ := Aside0.mk (below_step (by repeat (first | (with_reducible first | exact HB.out | apply below_alloc | apply pw_below_drewN | apply below_drew1 | refine below_set ?_ GE307.out | refine below_set ?_ GE325.out | refine below_set ?_ GE335.out | refine below_set ?_ GE344.out) | exact HB.out)) hb)
            clear HO_7
            clear HO317
            clear HO328
            clear BK307
            clear BK325
            clear BK335
            clear BK344
            clear HB
            have HO_7 := n0_
            have HO317 := n1_
            have HO328 := n2_
            have BK307 := n3_
            have BK325 := n4_
            have BK335 := n5_
            have BK344 := n6_
            have HB := n7_
            clear n0_ n1_ n2_ n3_ n4_ n5_ n6_ n7_
            (try clear hb)
            (try clear hb2)
            (try clear hk)
            (try clear hi)
            refine hK.out _ _ ⟨(blk_cell BK325.out 0).trans rfl, (blk_cell BK325.out 1).trans rfl, (blk_cell BK325.out 2).trans rfl, (blk_cell BK325.out 3).trans rfl, (blk_cell BK325.out 4).trans rfl, (blk_cell BK325.out 5).trans rfl, (blk_cell BK325.out 6).trans rfl, (blk_cell BK335.out 0).trans rfl, (blk_cell BK335.out 1).trans rfl, (blk_cell BK335.out 2).trans rfl, (blk_cell BK335.out 3).trans rfl, (blk_cell BK335.out 4).trans rfl, (blk_cell BK335.out 5).trans rfl, (blk_cell BK335.out 6).trans rfl, (blk_cell BK344.out 0).trans rfl, (blk_cell BK344.out 1).trans rfl, (blk_cell BK344.out 2).trans rfl, (blk_cell BK344.out 3).trans rfl, (blk_cell BK344.out 4).trans rfl, (blk_cell BK344.out 5).trans rfl, (blk_cell BK344.out 6).trans rfl, (blk_cell BK344.out 7).trans rfl⟩ (fun hHeld => ?_)
            clear hK K
            refine norm_ (a' := ?_) ?_ ?_
            rotate_left
            ·
             show Act.put _ (some 89) _ = _
             simp only [Act.put, List.setIfInBounds_toArray, List.set_cons_zero, List.set_cons_succ, i64_w, i32_w]
             rfl
            refine one_ (i := 22) (N := some 91) #[T, T, T, T, T, T, T, T, T, T, T, T, T, T, T, T, T, T, T, T, T, T, T, F, F, F, F, F, F, F, F, F, F, F, F, F, F, F, F, F, F, F, F, F, F] rfl rfl (one_of HT_.out (by kernel_rfl)) (by decide) (fun K hK => ?_)
            refine goes_ Try.func19 (by kernel_rfl) rfl #[.agg #[.int .u32 t346, .int .u32 t347, .int .u32 t348, .int .u32 t349, .int .u32 t350, .int .u32 t351, .int .u32 t352, .int .u32 t353], .agg #[.int .u32 t336, .int .u32 t337, .int .u32 t338, .int .u32 t339, .int .u32 t340, .int .u32 t341, .int .u32 t342, .int .u32 t343]] (by rfl) rfl rfl (by (try simp only [List.map_toArray, List.map_cons, List.map_nil]); first | done | rfl | (simp only [List.length_drop, List.length_take]; rfl)) ?_
            with_reducible refine (offertoryref09_Mul.calls t346 t347 t348 t349 t350 t351 t352 t353 t336 t337 t338 t339 t340 t341 t342 t343 t354 t355 t356 t357 t358 t359 t360 t361 _ A41.out).mono ?_
            rintro e w72 ⟨rfl, hb⟩
            refine ⟨_, rfl, ?_⟩
            have n0_ := Aside0.mk (Kd.R_below (by (with_reducible repeat (first | apply Kd.R_alloc | apply Kd.R_drewN | apply Kd.R_drew)); exact HO_7.out) hb)
            have n1_ := Aside0.mk (Kd.R_below (by (with_reducible repeat (first | apply Kd.R_alloc | apply Kd.R_drewN | apply Kd.R_drew)); exact HO317.out) hb)
            have n2_ := Aside0.mk (Kd.R_below (by (with_reducible repeat (first | apply Kd.R_alloc | apply Kd.R_drewN | apply Kd.R_drew)); exact HO328.out) hb)
            have n3_ := offertorylaw13_StatsTimes.keepB BK307 hb
            have n4_ := offertorylaw13_StatsTimes.keepB BK325 hb
            have n5_ := offertorylaw13_StatsTimes.keepB BK335 hb
            have n6_ := offertorylaw13_StatsTimes.keepB BK344 hb
            have n7_ := Aside0.mk (below_step (by repeat (first | (with_reducible first | exact HB.out | apply below_alloc | apply pw_below_drewN | apply below_drew1 | refine below_set ?_ GE307.out | refine below_set ?_ GE325.out | refine below_set ?_ GE335.out | refine below_set ?_ GE344.out) | exact HB.out)) hb)
            clear HO_7
            clear HO317
            clear HO328
            clear BK307
            clear BK325
            clear BK335
            clear BK344
            clear HB
            have HO_7 := n0_
            have HO317 := n1_
            have HO328 := n2_
            have BK307 := n3_
            have BK325 := n4_
            have BK335 := n5_
            have BK344 := n6_
            have HB := n7_
            clear n0_ n1_ n2_ n3_ n4_ n5_ n6_ n7_
            (try clear hb)
            (try clear hb2)
            (try clear hk)
            (try clear hi)
            refine hK.out _ _ ⟨(blk_cell BK325.out 0).trans rfl, (blk_cell BK325.out 1).trans rfl, (blk_cell BK325.out 2).trans rfl, (blk_cell BK325.out 3).trans rfl, (blk_cell BK325.out 4).trans rfl, (blk_cell BK325.out 5).trans rfl, (blk_cell BK325.out 6).trans rfl, (blk_cell BK335.out 0).trans rfl, (blk_cell BK335.out 1).trans rfl, (blk_cell BK335.out 2).trans rfl, (blk_cell BK335.out 3).trans rfl, (blk_cell BK335.out 4).trans rfl, (blk_cell BK335.out 5).trans rfl, (blk_cell BK335.out 6).trans rfl, (blk_cell BK344.out 0).trans rfl, (blk_cell BK344.out 1).trans rfl, (blk_cell BK344.out 2).trans rfl, (blk_cell BK344.out 3).trans rfl, (blk_cell BK344.out 4).trans rfl, (blk_cell BK344.out 5).trans rfl, (blk_cell BK344.out 6).trans rfl, (blk_cell BK344.out 7).trans rfl⟩ (fun hHeld => ?_)
            clear hK K
            refine norm_ (a' := ?_) ?_ ?_
            rotate_left
            ·
             show Act.put _ (some 91) _ = _
             simp only [Act.put, List.setIfInBounds_toArray, List.set_cons_zero, List.set_cons_succ, i64_w, i32_w]
             rfl
            refine one_ (i := 23) (N := some 92) #[T, T, T, T, T, T, T, T, T, T, T, T, T, T, T, T, T, T, T, T, T, T, T, T, F, F, F, F, F, F, F, F, F, F, F, F, F, F, F, F, F, F, F, F, F] rfl rfl (one_of HT_.out (by kernel_rfl)) (by decide) (fun K hK => ?_)
            refine goes_ Try.func20 (by kernel_rfl) rfl #[.agg #[.int .u32 t354, .int .u32 t355, .int .u32 t356, .int .u32 t357, .int .u32 t358, .int .u32 t359, .int .u32 t360, .int .u32 t361]] (by rfl) rfl rfl (by (try simp only [List.map_toArray, List.map_cons, List.map_nil]); first | done | rfl | (simp only [List.length_drop, List.length_take]; rfl)) ?_
            with_reducible refine (offertoryref09_Big_Wide.calls t354 t355 t356 t357 t358 t359 t360 t361 t362 t363 _ A42.out).mono ?_
            rintro e w73 ⟨rfl, hb⟩
            refine ⟨_, rfl, ?_⟩
            have n0_ := Aside0.mk (Kd.R_below (by (with_reducible repeat (first | apply Kd.R_alloc | apply Kd.R_drewN | apply Kd.R_drew)); exact HO_7.out) hb)
            have n1_ := Aside0.mk (Kd.R_below (by (with_reducible repeat (first | apply Kd.R_alloc | apply Kd.R_drewN | apply Kd.R_drew)); exact HO317.out) hb)
            have n2_ := Aside0.mk (Kd.R_below (by (with_reducible repeat (first | apply Kd.R_alloc | apply Kd.R_drewN | apply Kd.R_drew)); exact HO328.out) hb)
            have n3_ := offertorylaw13_StatsTimes.keepB BK307 hb
            have n4_ := offertorylaw13_StatsTimes.keepB BK325 hb
            have n5_ := offertorylaw13_StatsTimes.keepB BK335 hb
            have n6_ := offertorylaw13_StatsTimes.keepB BK344 hb
            have n7_ := Aside0.mk (below_step (by repeat (first | (with_reducible first | exact HB.out | apply below_alloc | apply pw_below_drewN | apply below_drew1 | refine below_set ?_ GE307.out | refine below_set ?_ GE325.out | refine below_set ?_ GE335.out | refine below_set ?_ GE344.out) | exact HB.out)) hb)
            clear HO_7
            clear HO317
            clear HO328
            clear BK307
            clear BK325
            clear BK335
            clear BK344
            clear HB
            have HO_7 := n0_
            have HO317 := n1_
            have HO328 := n2_
            have BK307 := n3_
            have BK325 := n4_
            have BK335 := n5_
            have BK344 := n6_
            have HB := n7_
            clear n0_ n1_ n2_ n3_ n4_ n5_ n6_ n7_
            (try clear hb)
            (try clear hb2)
            (try clear hk)
            (try clear hi)
            refine hK.out _ _ ⟨(blk_cell BK325.out 0).trans rfl, (blk_cell BK325.out 1).trans rfl, (blk_cell BK325.out 2).trans rfl, (blk_cell BK325.out 3).trans rfl, (blk_cell BK325.out 4).trans rfl, (blk_cell BK325.out 5).trans rfl, (blk_cell BK325.out 6).trans rfl, (blk_cell BK335.out 0).trans rfl, (blk_cell BK335.out 1).trans rfl, (blk_cell BK335.out 2).trans rfl, (blk_cell BK335.out 3).trans rfl, (blk_cell BK335.out 4).trans rfl, (blk_cell BK335.out 5).trans rfl, (blk_cell BK335.out 6).trans rfl, (blk_cell BK344.out 0).trans rfl, (blk_cell BK344.out 1).trans rfl, (blk_cell BK344.out 2).trans rfl, (blk_cell BK344.out 3).trans rfl, (blk_cell BK344.out 4).trans rfl, (blk_cell BK344.out 5).trans rfl, (blk_cell BK344.out 6).trans rfl, (blk_cell BK344.out 7).trans rfl⟩ (fun hHeld => ?_)
            clear hK K
            refine norm_ (a' := ?_) ?_ ?_
            rotate_left
            ·
             show Act.put _ (some 92) _ = _
             simp only [Act.put, List.setIfInBounds_toArray, List.set_cons_zero, List.set_cons_succ, i64_w, i32_w]
             rfl
            refine pure_ (i := 24) (N := some 93) (v := ?_) (a' := ?_) #[T, T, T, T, T, T, T, T, T, T, T, T, T, T, T, T, T, T, T, T, T, T, T, T, T, F, F, F, F, F, F, F, F, F, F, F, F, F, F, F, F, F, F, F, F] rfl rfl (any_of HT_.out (by kernel_rfl)) (fun _ _ _ h => h) (Or.inl ⟨by rfl, ?_⟩) ?_ ?_
            rotate_left
            ·
             intro w'
             (try simp only [add_plain] at s0 s1 s2 s3 s4 s5 s6 s7 s8 s9 s10 s11 s12 s13 s14 s15 s16 s17 s18 s19 s20 s21)
             go_simp
             with_reducible rfl
            rotate_left
            ·
             simp only [Act.put, List.setIfInBounds_toArray, List.set_cons_zero, List.set_cons_succ, i64_w, i32_w]
             rfl
            refine pure_ (i := 25) (N := some 94) (v := ?_) (a' := ?_) #[T, T, T, T, T, T, T, T, T, T, T, T, T, T, T, T, T, T, T, T, T, T, T, T, T, T, F, F, F, F, F, F, F, F, F, F, F, F, F, F, F, F, F, F, F] rfl rfl (any_of HT_.out (by kernel_rfl)) (fun _ _ _ h => h) (Or.inl ⟨by rfl, ?_⟩) ?_ ?_
            rotate_left
            ·
             intro w'
             (try simp only [add_plain] at s0 s1 s2 s3 s4 s5 s6 s7 s8 s9 s10 s11 s12 s13 s14 s15 s16 s17 s18 s19 s20 s21)
             go_simp
             with_reducible rfl
            rotate_left
            ·
             simp only [Act.put, List.setIfInBounds_toArray, List.set_cons_zero, List.set_cons_succ, i64_w, i32_w]
             rfl
            refine pure_ (i := 26) (N := some 95) (v := ?_) (a' := ?_) #[T, T, T, T, T, T, T, T, T, T, T, T, T, T, T, T, T, T, T, T, T, T, T, T, T, T, T, F, F, F, F, F, F, F, F, F, F, F, F, F, F, F, F, F, F] rfl rfl (any_of HT_.out (by kernel_rfl)) (fun _ _ _ h => h) (Or.inl ⟨by rfl, ?_⟩) ?_ ?_
            rotate_left
            ·
             intro w'
             (try simp only [add_plain] at s0 s1 s2 s3 s4 s5 s6 s7 s8 s9 s10 s11 s12 s13 s14 s15 s16 s17 s18 s19 s20 s21)
             go_simp
             with_reducible rfl
            rotate_left
            ·
             simp only [Act.put, List.setIfInBounds_toArray, List.set_cons_zero, List.set_cons_succ, i64_w, i32_w]
             rfl
            refine pure_ (i := 27) (N := some 96) (v := ?_) (a' := ?_) #[T, T, T, T, T, T, T, T, T, T, T, T, T, T, T, T, T, T, T, T, T, T, T, T, T, T, T, T, F, F, F, F, F, F, F, F, F, F, F, F, F, F, F, F, F] rfl rfl (any_of HT_.out (by kernel_rfl)) (fun _ _ _ h => h) (Or.inl ⟨by rfl, ?_⟩) ?_ ?_
            rotate_left
            ·
             intro w'
             (try simp only [add_plain] at s0 s1 s2 s3 s4 s5 s6 s7 s8 s9 s10 s11 s12 s13 s14 s15 s16 s17 s18 s19 s20 s21)
             go_simp
             with_reducible rfl
            rotate_left
            ·
             simp only [Act.put, List.setIfInBounds_toArray, List.set_cons_zero, List.set_cons_succ, i64_w, i32_w]
             rfl
            refine pure_ (i := 29) (N := some 98) (v := ?_) (a' := ?_) #[T, T, T, T, T, T, T, T, T, T, T, T, T, T, T, T, T, T, T, T, T, T, T, T, T, T, T, T, F, T, F, F, F, F, F, F, F, F, F, F, F, F, F, F, F] rfl rfl (any_of HT_.out (by kernel_rfl)) (fun _ _ _ h => h) (Or.inl ⟨by rfl, ?_⟩) ?_ ?_
            rotate_left
            ·
             intro w'
             (try simp only [add_plain] at s0 s1 s2 s3 s4 s5 s6 s7 s8 s9 s10 s11 s12 s13 s14 s15 s16 s17 s18 s19 s20 s21)
             go_simp
             with_reducible rfl
            rotate_left
            ·
             simp only [Act.put, List.setIfInBounds_toArray, List.set_cons_zero, List.set_cons_succ, i64_w, i32_w]
             rfl
            refine take_ (i := 28) (N := some 97) (v := ?_) (a' := ?_) #[T, T, T, T, T, T, T, T, T, T, T, T, T, T, T, T, T, T, T, T, T, T, T, T, T, T, T, T, T, T, F, F, F, F, F, F, F, F, F, F, F, F, F, F, F] rfl rfl (take_ofW HT_.out HW_.out (by kernel_rfl)) (fun _ _ _ h => h) (Or.inl ⟨by rfl, ?_⟩) hHeld ?_ ?_
            rotate_left
            ·
             rintro w' ⟨s0, s1, s2, s3, s4, s5, s6, s7, s8, s9, s10, s11, s12, s13, s14, s15, s16, s17, s18, s19, s20, s21⟩
             (try simp only [add_plain] at s0 s1 s2 s3 s4 s5 s6 s7 s8 s9 s10 s11 s12 s13 s14 s15 s16 s17 s18 s19 s20 s21)
             go_simp
             with_reducible rfl
            rotate_left
            ·
             simp only [Act.put, List.setIfInBounds_toArray, List.set_cons_zero, List.set_cons_succ, i64_w, i32_w]
             rfl
            refine take_ (i := 30) (N := some 99) (v := ?_) (a' := ?_) #[T, T, T, T, T, T, T, T, T, T, T, T, T, T, T, T, T, T, T, T, T, T, T, T, T, T, T, T, T, T, T, F, F, F, F, F, F, F, F, F, F, F, F, F, F] rfl rfl (take_ofW HT_.out HW_.out (by kernel_rfl)) (fun _ _ _ h => h) (Or.inl ⟨by rfl, ?_⟩) hHeld ?_ ?_
            rotate_left
            ·
             rintro w' ⟨s0, s1, s2, s3, s4, s5, s6, s7, s8, s9, s10, s11, s12, s13, s14, s15, s16, s17, s18, s19, s20, s21⟩
             (try simp only [add_plain] at s0 s1 s2 s3 s4 s5 s6 s7 s8 s9 s10 s11 s12 s13 s14 s15 s16 s17 s18 s19 s20 s21)
             go_simp
             with_reducible rfl
            rotate_left
            ·
             simp only [Act.put, List.setIfInBounds_toArray, List.set_cons_zero, List.set_cons_succ, i64_w, i32_w]
             rfl
            refine take_ (i := 32) (N := some 101) (v := ?_) (a' := ?_) #[T, T, T, T, T, T, T, T, T, T, T, T, T, T, T, T, T, T, T, T, T, T, T, T, T, T, T, T, T, T, T, F, T, F, F, F, F, F, F, F, F, F, F, F, F] rfl rfl (take_ofW HT_.out HW_.out (by kernel_rfl)) (fun _ _ _ h => h) (Or.inl ⟨by rfl, ?_⟩) hHeld ?_ ?_
            rotate_left
            ·
             rintro w' ⟨s0, s1, s2, s3, s4, s5, s6, s7, s8, s9, s10, s11, s12, s13, s14, s15, s16, s17, s18, s19, s20, s21⟩
             (try simp only [add_plain] at s0 s1 s2 s3 s4 s5 s6 s7 s8 s9 s10 s11 s12 s13 s14 s15 s16 s17 s18 s19 s20 s21)
             go_simp
             with_reducible rfl
            rotate_left
            ·
             simp only [Act.put, List.setIfInBounds_toArray, List.set_cons_zero, List.set_cons_succ, i64_w, i32_w]
             rfl
            refine one_ (i := 31) (N := some 100) #[T, T, T, T, T, T, T, T, T, T, T, T, T, T, T, T, T, T, T, T, T, T, T, T, T, T, T, T, T, T, T, T, T, F, F, F, F, F, F, F, F, F, F, F, F] rfl rfl (one_of HT_.out (by kernel_rfl)) (by decide) (fun K hK => ?_)
            refine goes_ Try.func18 (by kernel_rfl) rfl #[.agg #[.int .u64 t332, .int .u64 t333]] (by rfl) rfl rfl (by (try simp only [List.map_toArray, List.map_cons, List.map_nil]); first | done | rfl | (simp only [List.length_drop, List.length_take]; rfl)) ?_
            with_reducible refine (offertoryref09_Of.calls t332 t333 t364 t365 t366 t367 t368 t369 t370 t371 _ A44.out).mono ?_
            rintro e w74 ⟨rfl, hb⟩
            refine ⟨_, rfl, ?_⟩
            have n0_ := Aside0.mk (Kd.R_below (by (with_reducible repeat (first | apply Kd.R_alloc | apply Kd.R_drewN | apply Kd.R_drew)); exact HO_7.out) hb)
            have n1_ := Aside0.mk (Kd.R_below (by (with_reducible repeat (first | apply Kd.R_alloc | apply Kd.R_drewN | apply Kd.R_drew)); exact HO317.out) hb)
            have n2_ := Aside0.mk (Kd.R_below (by (with_reducible repeat (first | apply Kd.R_alloc | apply Kd.R_drewN | apply Kd.R_drew)); exact HO328.out) hb)
            have n3_ := offertorylaw13_StatsTimes.keepB BK307 hb
            have n4_ := offertorylaw13_StatsTimes.keepB BK325 hb
            have n5_ := offertorylaw13_StatsTimes.keepB BK335 hb
            have n6_ := offertorylaw13_StatsTimes.keepB BK344 hb
            have n7_ := Aside0.mk (below_step (by repeat (first | (with_reducible first | exact HB.out | apply below_alloc | apply pw_below_drewN | apply below_drew1 | refine below_set ?_ GE307.out | refine below_set ?_ GE325.out | refine below_set ?_ GE335.out | refine below_set ?_ GE344.out) | exact HB.out)) hb)
            clear HO_7
            clear HO317
            clear HO328
            clear BK307
            clear BK325
            clear BK335
            clear BK344
            clear HB
            have HO_7 := n0_
            have HO317 := n1_
            have HO328 := n2_
            have BK307 := n3_
            have BK325 := n4_
            have BK335 := n5_
            have BK344 := n6_
            have HB := n7_
            clear n0_ n1_ n2_ n3_ n4_ n5_ n6_ n7_
            (try clear hb)
            (try clear hb2)
            (try clear hk)
            (try clear hi)
            refine hK.out _ _ ⟨(blk_cell BK325.out 0).trans rfl, (blk_cell BK325.out 1).trans rfl, (blk_cell BK325.out 2).trans rfl, (blk_cell BK325.out 3).trans rfl, (blk_cell BK325.out 4).trans rfl, (blk_cell BK325.out 5).trans rfl, (blk_cell BK325.out 6).trans rfl, (blk_cell BK335.out 0).trans rfl, (blk_cell BK335.out 1).trans rfl, (blk_cell BK335.out 2).trans rfl, (blk_cell BK335.out 3).trans rfl, (blk_cell BK335.out 4).trans rfl, (blk_cell BK335.out 5).trans rfl, (blk_cell BK335.out 6).trans rfl, (blk_cell BK344.out 0).trans rfl, (blk_cell BK344.out 1).trans rfl, (blk_cell BK344.out 2).trans rfl, (blk_cell BK344.out 3).trans rfl, (blk_cell BK344.out 4).trans rfl, (blk_cell BK344.out 5).trans rfl, (blk_cell BK344.out 6).trans rfl, (blk_cell BK344.out 7).trans rfl⟩ (fun hHeld => ?_)
            clear hK K
            refine norm_ (a' := ?_) ?_ ?_
            rotate_left
            ·
             show Act.put _ (some 100) _ = _
             simp only [Act.put, List.setIfInBounds_toArray, List.set_cons_zero, List.set_cons_succ, i64_w, i32_w]
             rfl
            refine one_ (i := 33) (N := some 102) #[T, T, T, T, T, T, T, T, T, T, T, T, T, T, T, T, T, T, T, T, T, T, T, T, T, T, T, T, T, T, T, T, T, T, F, F, F, F, F, F, F, F, F, F, F] rfl rfl (one_of HT_.out (by kernel_rfl)) (by decide) (fun K hK => ?_)
            refine goes_ Try.func19 (by kernel_rfl) rfl #[.agg #[.int .u32 t364, .int .u32 t365, .int .u32 t366, .int .u32 t367, .int .u32 t368, .int .u32 t369, .int .u32 t370, .int .u32 t371], .agg #[.int .u32 t336, .int .u32 t337, .int .u32 t338, .int .u32 t339, .int .u32 t340, .int .u32 t341, .int .u32 t342, .int .u32 t343]] (by rfl) rfl rfl (by (try simp only [List.map_toArray, List.map_cons, List.map_nil]); first | done | rfl | (simp only [List.length_drop, List.length_take]; rfl)) ?_
            with_reducible refine (offertoryref09_Mul.calls t364 t365 t366 t367 t368 t369 t370 t371 t336 t337 t338 t339 t340 t341 t342 t343 t372 t373 t374 t375 t376 t377 t378 t379 _ A45.out).mono ?_
            rintro e w75 ⟨rfl, hb⟩
            refine ⟨_, rfl, ?_⟩
            have n0_ := Aside0.mk (Kd.R_below (by (with_reducible repeat (first | apply Kd.R_alloc | apply Kd.R_drewN | apply Kd.R_drew)); exact HO_7.out) hb)
            have n1_ := Aside0.mk (Kd.R_below (by (with_reducible repeat (first | apply Kd.R_alloc | apply Kd.R_drewN | apply Kd.R_drew)); exact HO317.out) hb)
            have n2_ := Aside0.mk (Kd.R_below (by (with_reducible repeat (first | apply Kd.R_alloc | apply Kd.R_drewN | apply Kd.R_drew)); exact HO328.out) hb)
            have n3_ := offertorylaw13_StatsTimes.keepB BK307 hb
            have n4_ := offertorylaw13_StatsTimes.keepB BK325 hb
            have n5_ := offertorylaw13_StatsTimes.keepB BK335 hb
            have n6_ := offertorylaw13_StatsTimes.keepB BK344 hb
            have n7_ := Aside0.mk (below_step (by repeat (first | (with_reducible first | exact HB.out | apply below_alloc | apply pw_below_drewN | apply below_drew1 | refine below_set ?_ GE307.out | refine below_set ?_ GE325.out | refine below_set ?_ GE335.out | refine below_set ?_ GE344.out) | exact HB.out)) hb)
            clear HO_7
            clear HO317
            clear HO328
            clear BK307
            clear BK325
            clear BK335
            clear BK344
            clear HB
            have HO_7 := n0_
            have HO317 := n1_
            have HO328 := n2_
            have BK307 := n3_
            have BK325 := n4_
            have BK335 := n5_
            have BK344 := n6_
            have HB := n7_
            clear n0_ n1_ n2_ n3_ n4_ n5_ n6_ n7_
            (try clear hb)
            (try clear hb2)
            (try clear hk)
            (try clear hi)
            refine hK.out _ _ ⟨(blk_cell BK325.out 0).trans rfl, (blk_cell BK325.out 1).trans rfl, (blk_cell BK325.out 2).trans rfl, (blk_cell BK325.out 3).trans rfl, (blk_cell BK325.out 4).trans rfl, (blk_cell BK325.out 5).trans rfl, (blk_cell BK325.out 6).trans rfl, (blk_cell BK335.out 0).trans rfl, (blk_cell BK335.out 1).trans rfl, (blk_cell BK335.out 2).trans rfl, (blk_cell BK335.out 3).trans rfl, (blk_cell BK335.out 4).trans rfl, (blk_cell BK335.out 5).trans rfl, (blk_cell BK335.out 6).trans rfl, (blk_cell BK344.out 0).trans rfl, (blk_cell BK344.out 1).trans rfl, (blk_cell BK344.out 2).trans rfl, (blk_cell BK344.out 3).trans rfl, (blk_cell BK344.out 4).trans rfl, (blk_cell BK344.out 5).trans rfl, (blk_cell BK344.out 6).trans rfl, (blk_cell BK344.out 7).trans rfl⟩ (fun hHeld => ?_)
            clear hK K
            refine norm_ (a' := ?_) ?_ ?_
            rotate_left
            ·
             show Act.put _ (some 102) _ = _
             simp only [Act.put, List.setIfInBounds_toArray, List.set_cons_zero, List.set_cons_succ, i64_w, i32_w]
             rfl
            refine one_ (i := 34) (N := some 103) #[T, T, T, T, T, T, T, T, T, T, T, T, T, T, T, T, T, T, T, T, T, T, T, T, T, T, T, T, T, T, T, T, T, T, T, F, F, F, F, F, F, F, F, F, F] rfl rfl (one_of HT_.out (by kernel_rfl)) (by decide) (fun K hK => ?_)
            refine goes_ Try.func20 (by kernel_rfl) rfl #[.agg #[.int .u32 t372, .int .u32 t373, .int .u32 t374, .int .u32 t375, .int .u32 t376, .int .u32 t377, .int .u32 t378, .int .u32 t379]] (by rfl) rfl rfl (by (try simp only [List.map_toArray, List.map_cons, List.map_nil]); first | done | rfl | (simp only [List.length_drop, List.length_take]; rfl)) ?_
            with_reducible refine (offertoryref09_Big_Wide.calls t372 t373 t374 t375 t376 t377 t378 t379 t380 t381 _ A46.out).mono ?_
            rintro e w76 ⟨rfl, hb⟩
            refine ⟨_, rfl, ?_⟩
            have n0_ := Aside0.mk (Kd.R_below (by (with_reducible repeat (first | apply Kd.R_alloc | apply Kd.R_drewN | apply Kd.R_drew)); exact HO_7.out) hb)
            have n1_ := Aside0.mk (Kd.R_below (by (with_reducible repeat (first | apply Kd.R_alloc | apply Kd.R_drewN | apply Kd.R_drew)); exact HO317.out) hb)
            have n2_ := Aside0.mk (Kd.R_below (by (with_reducible repeat (first | apply Kd.R_alloc | apply Kd.R_drewN | apply Kd.R_drew)); exact HO328.out) hb)
            have n3_ := offertorylaw13_StatsTimes.keepB BK307 hb
            have n4_ := offertorylaw13_StatsTimes.keepB BK325 hb
            have n5_ := offertorylaw13_StatsTimes.keepB BK335 hb
            have n6_ := offertorylaw13_StatsTimes.keepB BK344 hb
            have n7_ := Aside0.mk (below_step (by repeat (first | (with_reducible first | exact HB.out | apply below_alloc | apply pw_below_drewN | apply below_drew1 | refine below_set ?_ GE307.out | refine below_set ?_ GE325.out | refine below_set ?_ GE335.out | refine below_set ?_ GE344.out) | exact HB.out)) hb)
            clear HO_7
            clear HO317
            clear HO328
            clear BK307
            clear BK325
            clear BK335
            clear BK344
            clear HB
            have HO_7 := n0_
            have HO317 := n1_
            have HO328 := n2_
            have BK307 := n3_
            have BK325 := n4_
            have BK335 := n5_
            have BK344 := n6_
            have HB := n7_
            clear n0_ n1_ n2_ n3_ n4_ n5_ n6_ n7_
            (try clear hb)
            (try clear hb2)
            (try clear hk)
            (try clear hi)
            refine hK.out _ _ ⟨(blk_cell BK325.out 0).trans rfl, (blk_cell BK325.out 1).trans rfl, (blk_cell BK325.out 2).trans rfl, (blk_cell BK325.out 3).trans rfl, (blk_cell BK325.out 4).trans rfl, (blk_cell BK325.out 5).trans rfl, (blk_cell BK325.out 6).trans rfl, (blk_cell BK335.out 0).trans rfl, (blk_cell BK335.out 1).trans rfl, (blk_cell BK335.out 2).trans rfl, (blk_cell BK335.out 3).trans rfl, (blk_cell BK335.out 4).trans rfl, (blk_cell BK335.out 5).trans rfl, (blk_cell BK335.out 6).trans rfl, (blk_cell BK344.out 0).trans rfl, (blk_cell BK344.out 1).trans rfl, (blk_cell BK344.out 2).trans rfl, (blk_cell BK344.out 3).trans rfl, (blk_cell BK344.out 4).trans rfl, (blk_cell BK344.out 5).trans rfl, (blk_cell BK344.out 6).trans rfl, (blk_cell BK344.out 7).trans rfl⟩ (fun hHeld => ?_)
            clear hK K
            refine norm_ (a' := ?_) ?_ ?_
            rotate_left
            ·
             show Act.put _ (some 103) _ = _
             simp only [Act.put, List.setIfInBounds_toArray, List.set_cons_zero, List.set_cons_succ, i64_w, i32_w]
             rfl
            refine pure_ (i := 35) (N := some 104) (v := ?_) (a' := ?_) #[T, T, T, T, T, T, T, T, T, T, T, T, T, T, T, T, T, T, T, T, T, T, T, T, T, T, T, T, T, T, T, T, T, T, T, T, F, F, F, F, F, F, F, F, F] rfl rfl (any_of HT_.out (by kernel_rfl)) (fun _ _ _ h => h) (Or.inl ⟨by rfl, ?_⟩) ?_ ?_
            rotate_left
            ·
             intro w'
             (try simp only [add_plain] at s0 s1 s2 s3 s4 s5 s6 s7 s8 s9 s10 s11 s12 s13 s14 s15 s16 s17 s18 s19 s20 s21)
             go_simp
             with_reducible rfl
            rotate_left
            ·
             simp only [Act.put, List.setIfInBounds_toArray, List.set_cons_zero, List.set_cons_succ, i64_w, i32_w]
             rfl
            refine pure_ (i := 36) (N := some 105) (v := ?_) (a' := ?_) #[T, T, T, T, T, T, T, T, T, T, T, T, T, T, T, T, T, T, T, T, T, T, T, T, T, T, T, T, T, T, T, T, T, T, T, T, T, F, F, F, F, F, F, F, F] rfl rfl (any_of HT_.out (by kernel_rfl)) (fun _ _ _ h => h) (Or.inl ⟨by rfl, ?_⟩) ?_ ?_
            rotate_left
            ·
             intro w'
             (try simp only [add_plain] at s0 s1 s2 s3 s4 s5 s6 s7 s8 s9 s10 s11 s12 s13 s14 s15 s16 s17 s18 s19 s20 s21)
             go_simp
             with_reducible rfl
            rotate_left
            ·
             simp only [Act.put, List.setIfInBounds_toArray, List.set_cons_zero, List.set_cons_succ, i64_w, i32_w]
             rfl
            refine pure_ (i := 37) (N := some 106) (v := ?_) (a' := ?_) #[T, T, T, T, T, T, T, T, T, T, T, T, T, T, T, T, T, T, T, T, T, T, T, T, T, T, T, T, T, T, T, T, T, T, T, T, T, T, F, F, F, F, F, F, F] rfl rfl (any_of HT_.out (by kernel_rfl)) (fun _ _ _ h => h) (Or.inl ⟨by rfl, ?_⟩) ?_ ?_
            rotate_left
            ·
             intro w'
             (try simp only [add_plain] at s0 s1 s2 s3 s4 s5 s6 s7 s8 s9 s10 s11 s12 s13 s14 s15 s16 s17 s18 s19 s20 s21)
             go_simp
             with_reducible rfl
            rotate_left
            ·
             simp only [Act.put, List.setIfInBounds_toArray, List.set_cons_zero, List.set_cons_succ, i64_w, i32_w]
             rfl
            refine pure_ (i := 38) (N := some 107) (v := ?_) (a' := ?_) #[T, T, T, T, T, T, T, T, T, T, T, T, T, T, T, T, T, T, T, T, T, T, T, T, T, T, T, T, T, T, T, T, T, T, T, T, T, T, T, F, F, F, F, F, F] rfl rfl (any_of HT_.out (by kernel_rfl)) (fun _ _ _ h => h) (Or.inl ⟨by rfl, ?_⟩) ?_ ?_
            rotate_left
            ·
             intro w'
             (try simp only [add_plain] at s0 s1 s2 s3 s4 s5 s6 s7 s8 s9 s10 s11 s12 s13 s14 s15 s16 s17 s18 s19 s20 s21)
             go_simp
             with_reducible rfl
            rotate_left
            ·
             simp only [Act.put, List.setIfInBounds_toArray, List.set_cons_zero, List.set_cons_succ, i64_w, i32_w]
             rfl
            refine pure_ (i := 40) (N := some 109) (v := ?_) (a' := ?_) #[T, T, T, T, T, T, T, T, T, T, T, T, T, T, T, T, T, T, T, T, T, T, T, T, T, T, T, T, T, T, T, T, T, T, T, T, T, T, T, F, T, F, F, F, F] rfl rfl (any_of HT_.out (by kernel_rfl)) (fun _ _ _ h => h) (Or.inl ⟨by rfl, ?_⟩) ?_ ?_
            rotate_left
            ·
             intro w'
             (try simp only [add_plain] at s0 s1 s2 s3 s4 s5 s6 s7 s8 s9 s10 s11 s12 s13 s14 s15 s16 s17 s18 s19 s20 s21)
             go_simp
             with_reducible rfl
            rotate_left
            ·
             simp only [Act.put, List.setIfInBounds_toArray, List.set_cons_zero, List.set_cons_succ, i64_w, i32_w]
             rfl
            refine take_ (i := 39) (N := some 108) (v := ?_) (a' := ?_) #[T, T, T, T, T, T, T, T, T, T, T, T, T, T, T, T, T, T, T, T, T, T, T, T, T, T, T, T, T, T, T, T, T, T, T, T, T, T, T, T, T, F, F, F, F] rfl rfl (take_ofW HT_.out HW_.out (by kernel_rfl)) (fun _ _ _ h => h) (Or.inl ⟨by rfl, ?_⟩) hHeld ?_ ?_
            rotate_left
            ·
             rintro w' ⟨s0, s1, s2, s3, s4, s5, s6, s7, s8, s9, s10, s11, s12, s13, s14, s15, s16, s17, s18, s19, s20, s21⟩
             (try simp only [add_plain] at s0 s1 s2 s3 s4 s5 s6 s7 s8 s9 s10 s11 s12 s13 s14 s15 s16 s17 s18 s19 s20 s21)
             go_simp
             with_reducible rfl
            rotate_left
            ·
             simp only [Act.put, List.setIfInBounds_toArray, List.set_cons_zero, List.set_cons_succ, i64_w, i32_w]
             rfl
            refine take_ (i := 41) (N := some 110) (v := ?_) (a' := ?_) #[T, T, T, T, T, T, T, T, T, T, T, T, T, T, T, T, T, T, T, T, T, T, T, T, T, T, T, T, T, T, T, T, T, T, T, T, T, T, T, T, T, T, F, F, F] rfl rfl (take_ofW HT_.out HW_.out (by kernel_rfl)) (fun _ _ _ h => h) (Or.inl ⟨by rfl, ?_⟩) hHeld ?_ ?_
            rotate_left
            ·
             rintro w' ⟨s0, s1, s2, s3, s4, s5, s6, s7, s8, s9, s10, s11, s12, s13, s14, s15, s16, s17, s18, s19, s20, s21⟩
             (try simp only [add_plain] at s0 s1 s2 s3 s4 s5 s6 s7 s8 s9 s10 s11 s12 s13 s14 s15 s16 s17 s18 s19 s20 s21)
             go_simp
             with_reducible rfl
            rotate_left
            ·
             simp only [Act.put, List.setIfInBounds_toArray, List.set_cons_zero, List.set_cons_succ, i64_w, i32_w]
             rfl
            refine pure_ (i := 42) (N := some 111) (v := ?_) (a' := ?_) #[T, T, T, T, T, T, T, T, T, T, T, T, T, T, T, T, T, T, T, T, T, T, T, T, T, T, T, T, T, T, T, T, T, T, T, T, T, T, T, T, T, T, T, F, F] rfl rfl (any_of HT_.out (by kernel_rfl)) (fun _ _ _ h => h) (Or.inl ⟨by rfl, ?_⟩) ?_ ?_
            rotate_left
            ·
             intro w'
             (try simp only [add_plain] at s0 s1 s2 s3 s4 s5 s6 s7 s8 s9 s10 s11 s12 s13 s14 s15 s16 s17 s18 s19 s20 s21)
             go_simp
             with_reducible rfl
            rotate_left
            ·
             simp only [Act.put, List.setIfInBounds_toArray, List.set_cons_zero, List.set_cons_succ, i64_w, i32_w]
             rfl
            refine pure_ (i := 43) (N := some 112) (v := ?_) (a' := ?_) #[T, T, T, T, T, T, T, T, T, T, T, T, T, T, T, T, T, T, T, T, T, T, T, T, T, T, T, T, T, T, T, T, T, T, T, T, T, T, T, T, T, T, T, T, F] rfl rfl (any_of HT_.out (by kernel_rfl)) (fun _ _ _ h => h) (Or.inl ⟨by rfl, ?_⟩) ?_ ?_
            rotate_left
            ·
             intro w'
             (try simp only [add_plain] at s0 s1 s2 s3 s4 s5 s6 s7 s8 s9 s10 s11 s12 s13 s14 s15 s16 s17 s18 s19 s20 s21)
             go_simp
             with_reducible rfl
            rotate_left
            ·
             simp only [Act.put, List.setIfInBounds_toArray, List.set_cons_zero, List.set_cons_succ, i64_w, i32_w]
             rfl
            refine pure_ (i := 44) (N := some 6) (v := ?_) (a' := ?_) #[T, T, T, T, T, T, T, T, T, T, T, T, T, T, T, T, T, T, T, T, T, T, T, T, T, T, T, T, T, T, T, T, T, T, T, T, T, T, T, T, T, T, T, T, T] rfl rfl (any_of HT_.out (by kernel_rfl)) (fun _ _ _ h => h) (Or.inl ⟨by rfl, ?_⟩) ?_ ?_
            rotate_left
            ·
             intro w'
             (try simp only [add_plain] at s0 s1 s2 s3 s4 s5 s6 s7 s8 s9 s10 s11 s12 s13 s14 s15 s16 s17 s18 s19 s20 s21)
             go_simp
             with_reducible rfl
            rotate_left
            ·
             simp only [Act.put, List.setIfInBounds_toArray, List.set_cons_zero, List.set_cons_succ, i64_w, i32_w]
             rfl
            refine done_ (done_of HT_.out (by kernel_rfl)) ?_
            try go_wp2
            go_ret
            exact ⟨by first | rfl | (simp [errW_none, errW_some] <;> rfl) | (simp [*, errW_none, errW_some] <;> rfl), by repeat (first | (with_reducible first | exact HB.out | apply below_alloc | apply pw_below_drewN | apply below_drew1 | refine below_set ?_ GE307.out | refine below_set ?_ GE325.out | refine below_set ?_ GE335.out | refine below_set ?_ GE344.out) | exact HB.out)⟩
           ·
            rw [if_neg c47] at H
            exact absurd H (by simp)
          ·
           rw [if_neg c43] at H
           exact absurd H (by simp)
         ·
          rw [if_neg c39] at H
          exact absurd H (by simp)
        ·
         rw [if_neg c38] at H
         exact absurd H (by simp)
       ·
        replace c37 := Bool.eq_false_iff.mpr c37
        subst c37
        have H1 : (none) = some r := by rw [if_neg (show ¬ (false = true) by decide)] at H; exact H
        clear H
        have H := H1
        clear H1
        exact absurd H (by simp)

end Go.Proofs.Ytdpekjffjobabaa.PAll
