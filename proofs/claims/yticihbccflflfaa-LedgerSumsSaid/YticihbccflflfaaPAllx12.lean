/- The Go functions that the laws reach, as Lean functions, and that each call comes to what its function says. Written by a program of this session (a turned copy of the kit's print). No condition beyond those that each theorem states. -/
import Derived.Test.YticihbccflflfaaPAllx0
import Derived.Test.YticihbccflflfaaPAllx6
import Derived.Test.YticihbccflflfaaPAllx8
import Derived.Test.YticihbccflflfaaPAllx10
namespace Go.Proofs.Yticihbccflflfaa.PAll
open Go.RowKit Go.Proofs.YticihbccflflfaaW.PrintWords Go.Proofs.YticihbccflflfaaW.PrintLast Go.Proofs.YticihbccflflfaaW.PrintMore
attribute [local go_sem] max2_int min2_int max_two min_two max_three min_three max_four min_four   -- for this text's walks alone
set_option linter.unusedVariables false
set_option linter.unusedSimpArgs false

theorem offertorylaw29_LedgerSums.keepB {W0 W w1 : World} {g : Nat} {o : Obj} (h : Aside0 (W0.heap[g]? = some o)) (hb : Below W.heap.size W w1) (hs : W0.heap[g]? = some o → W.heap[g]? = some o := by intro h_; (with_reducible repeat (first | refine blk_drewN ?_ _ | refine blk_drew ?_ | refine blk_alloc ?_ _)); exact h_) : Aside0 (w1.heap[g]? = some o) := ⟨(hb.block g (blk_lt (hs h.out))).trans (hs h.out)⟩
theorem offertorylaw29_LedgerSums.neL {W0 W : World} {g gb : Nat} {o : Obj} (h : Aside0 (W0.heap[g]? = some o)) (hg : gb = W.heap.size) (hs : W0.heap[g]? = some o → W.heap[g]? = some o := by intro h_; (with_reducible repeat (first | refine blk_drewN ?_ _ | refine blk_drew ?_ | refine blk_alloc ?_ _)); exact h_) : Aside0 (g ≠ gb) := ⟨by rw [hg]; exact Nat.ne_of_lt (blk_lt (hs h.out))⟩
theorem offertorylaw29_LedgerSums.neG {W0 W : World} {g gb : Nat} {o : Obj} (h : Aside0 (W0.heap[g]? = some o)) (hg : gb = W.heap.size) (hs : W0.heap[g]? = some o → W.heap[g]? = some o := by intro h_; (with_reducible repeat (first | refine blk_drewN ?_ _ | refine blk_drew ?_ | refine blk_alloc ?_ _)); exact h_) : Aside0 (gb ≠ g) := ⟨by rw [hg]; exact Nat.ne_of_gt (blk_lt (hs h.out))⟩
/-! ### offertorylaw29_LedgerSums: function 5 -/
mutual
def offertorylaw29_LedgerSums.j0 : Nat → Int → List (S27) → Option (Bool)
  | 0, _, _ => none
  | k + 1, x0, x1 => (ledger_Sum.f k x0 x1).bind fun bt283 => (if x0 < 0 then (offertorylaw29_LedgerSums.j1 k x0 x1 bt283.2.2.2.2.2.2.2 0 true bt283.1 bt283.2.1 bt283.2.2.1 bt283.2.2.2.1 bt283.2.2.2.2.1 bt283.2.2.2.2.2.1 bt283.2.2.2.2.2.2.1) else (offertorylaw29_LedgerSums.j1 k x0 x1 bt283.2.2.2.2.2.2.2 0 (decide (x0 > 256)) bt283.1 bt283.2.1 bt283.2.2.1 bt283.2.2.2.1 bt283.2.2.2.2.1 bt283.2.2.2.2.2.1 bt283.2.2.2.2.2.2.1))
def offertorylaw29_LedgerSums.j1 : Nat → Int → List (S27) → Int → Int → Bool → List Int → Int → Int → Int → Int → Int → Bool → Option (Bool)
  | 0, _, _, _, _, _, _, _, _, _, _, _, _ => none
  | k + 1, x0, x1, x6, x7, x27, x294000, x294001, x294002, x294003, x294004, x294005, x294006 => if x27 = true then (offertorylaw29_LedgerSums.j2 k x0 x1 x6 1 x294000 x294001 x294002 x294003 x294004 x294005 x294006) else (offertorylaw29_LedgerSums.j2 k x0 x1 x6 x7 x294000 x294001 x294002 x294003 x294004 x294005 x294006)
def offertorylaw29_LedgerSums.j2 : Nat → Int → List (S27) → Int → Int → List Int → Int → Int → Int → Int → Int → Bool → Option (Bool)
  | 0, _, _, _, _, _, _, _, _, _, _, _ => none
  | k + 1, x0, x1, x6, x7, x294000, x294001, x294002, x294003, x294004, x294005, x294006 => offertorylaw29_LedgerSums.l0 k x0 x1 x6 x7 0 x294000 x294001 x294002 x294003 x294004 x294005 x294006
def offertorylaw29_LedgerSums.l0 : Nat → Int → List (S27) → Int → Int → Int → List Int → Int → Int → Int → Int → Int → Bool → Option (Bool)
  | 0, _, _, _, _, _, _, _, _, _, _, _, _ => none
  | k + 1, x0, x1, x6, x7, x8, x294000, x294001, x294002, x294003, x294004, x294005, x294006 => if x8 < (x1.length : Int) then (if 0 ≤ x8 then (if (((rd_T27 x1 x8).f0).length : Int) = x0 then (offertorylaw29_LedgerSums.l0 k x0 x1 x6 x7 (wrap64 (x8 + 1)) x294000 x294001 x294002 x294003 x294004 x294005 x294006) else (offertorylaw29_LedgerSums.l0 k x0 x1 x6 1 (wrap64 (x8 + 1)) x294000 x294001 x294002 x294003 x294004 x294005 x294006)) else (none)) else (if x7 = 0 then (if 0 ≤ x0 then (if (x0 : Int).toNat ≤ 35184372088832 then (offertorylaw29_LedgerSums.j4 k x1 x6 x7 x294000 x294001 x294002 x294003 x294004 x294005 x294006 (List.replicate (x0 : Int).toNat 0) 0 0 0 0 0 false) else (none)) else (none)) else (offertorylaw29_LedgerSums.j4 k x1 x6 x7 x294000 x294001 x294002 x294003 x294004 x294005 x294006 ([] : List Int) 0 0 0 0 0 false))
def offertorylaw29_LedgerSums.j4 : Nat → List (S27) → Int → Int → List Int → Int → Int → Int → Int → Int → Bool → List Int → Int → Int → Int → Int → Int → Bool → Option (Bool)
  | 0, _, _, _, _, _, _, _, _, _, _, _, _, _, _, _, _, _ => none
  | k + 1, x1, x6, x7, x294000, x294001, x294002, x294003, x294004, x294005, x294006, x296000, x296001, x296002, x296003, x296004, x296005, x296006 => offertorylaw29_LedgerSums.l1 k x1 x6 x7 0 x294000 x294001 x294002 x294003 x294004 x294005 x294006 x296000 x296001 x296002 x296003 x296004 x296005 x296006
def offertorylaw29_LedgerSums.j6 : Nat → Int → Int → List Int → Int → Int → Int → Int → Int → Bool → List Int → Int → Int → Int → Int → Int → Bool → Option (Bool)
  | 0, _, _, _, _, _, _, _, _, _, _, _, _, _, _, _, _ => none
  | k + 1, x6, x7, x294000, x294001, x294002, x294003, x294004, x294005, x294006, x296000, x296001, x296002, x296003, x296004, x296005, x296006 => if x7 = 0 then ((offertorylaw29_awake.f k).bind fun t310 => (if t310 = true then (if x6 = 0 then ((offertoryref09_Same.f k x294000 x294001 x294002 x294003 x294004 x294005 x294006 x296000 x296001 x296002 x296003 x296004 x296005 x296006).bind fun t311 => (some t311)) else (none)) else (none))) else ((offertorylaw29_awake.f k).bind fun t312 => (if t312 = true then (if x6 = x7 then ((offertoryref09_Same.f k x294000 x294001 x294002 x294003 x294004 x294005 x294006 ([] : List Int) 0 0 0 0 0 false).bind fun t313 => (some t313)) else (none)) else (none)))
def offertorylaw29_LedgerSums.l1 : Nat → List (S27) → Int → Int → Int → List Int → Int → Int → Int → Int → Int → Bool → List Int → Int → Int → Int → Int → Int → Bool → Option (Bool)
  | 0, _, _, _, _, _, _, _, _, _, _, _, _, _, _, _, _, _, _ => none
  | k + 1, x1, x6, x7, x10, x294000, x294001, x294002, x294003, x294004, x294005, x294006, x296000, x296001, x296002, x296003, x296004, x296005, x296006 => if x10 < (x1.length : Int) then (if x7 = 0 then (if 0 ≤ x10 then ((offertorylaw29_both.f x296000 x296001 x296002 x296003 x296004 x296005 x296006 ((rd_T27 x1 x10).f0) ((rd_T27 x1 x10).f1) ((rd_T27 x1 x10).f2.f0) ((rd_T27 x1 x10).f2.f1) ((rd_T27 x1 x10).f3.f0) ((rd_T27 x1 x10).f3.f1) ((rd_T27 x1 x10).f4) false).bind fun bt300 => (offertorylaw29_LedgerSums.l1 k x1 x6 bt300.2.2.2.2.2.2.2 (wrap64 (x10 + 1)) x294000 x294001 x294002 x294003 x294004 x294005 x294006 bt300.1 bt300.2.1 bt300.2.2.1 bt300.2.2.2.1 bt300.2.2.2.2.1 bt300.2.2.2.2.2.1 bt300.2.2.2.2.2.2.1)) else (none)) else (offertorylaw29_LedgerSums.j6 k x6 x7 x294000 x294001 x294002 x294003 x294004 x294005 x294006 x296000 x296001 x296002 x296003 x296004 x296005 x296006)) else (offertorylaw29_LedgerSums.j6 k x6 x7 x294000 x294001 x294002 x294003 x294004 x294005 x294006 x296000 x296001 x296002 x296003 x296004 x296005 x296006)
end
def offertorylaw29_LedgerSums.f (k : Nat) (a0 : Int) (l1 : List (S27)) : Option (Bool) := if (l1.length : Int) > 12 then (if 12 ≤ (l1.length : Int) then (offertorylaw29_LedgerSums.j0 k a0 (l1.take 12)) else (none)) else (offertorylaw29_LedgerSums.j0 k a0 l1)
theorem offertorylaw29_LedgerSums.mono_l : ∀ k, (∀ y0 y1, LeO (offertorylaw29_LedgerSums.j0 k y0 y1) (offertorylaw29_LedgerSums.j0 (k + 1) y0 y1)) ∧ (∀ y0 y1 y2 y3 y4 y5 y6 y7 y8 y9 y10 y11, LeO (offertorylaw29_LedgerSums.j1 k y0 y1 y2 y3 y4 y5 y6 y7 y8 y9 y10 y11) (offertorylaw29_LedgerSums.j1 (k + 1) y0 y1 y2 y3 y4 y5 y6 y7 y8 y9 y10 y11)) ∧ (∀ y0 y1 y2 y3 y4 y5 y6 y7 y8 y9 y10, LeO (offertorylaw29_LedgerSums.j2 k y0 y1 y2 y3 y4 y5 y6 y7 y8 y9 y10) (offertorylaw29_LedgerSums.j2 (k + 1) y0 y1 y2 y3 y4 y5 y6 y7 y8 y9 y10)) ∧ (∀ y0 y1 y2 y3 y4 y5 y6 y7 y8 y9 y10 y11, LeO (offertorylaw29_LedgerSums.l0 k y0 y1 y2 y3 y4 y5 y6 y7 y8 y9 y10 y11) (offertorylaw29_LedgerSums.l0 (k + 1) y0 y1 y2 y3 y4 y5 y6 y7 y8 y9 y10 y11)) ∧ (∀ y0 y1 y2 y3 y4 y5 y6 y7 y8 y9 y10 y11 y12 y13 y14 y15 y16, LeO (offertorylaw29_LedgerSums.j4 k y0 y1 y2 y3 y4 y5 y6 y7 y8 y9 y10 y11 y12 y13 y14 y15 y16) (offertorylaw29_LedgerSums.j4 (k + 1) y0 y1 y2 y3 y4 y5 y6 y7 y8 y9 y10 y11 y12 y13 y14 y15 y16)) ∧ (∀ y0 y1 y2 y3 y4 y5 y6 y7 y8 y9 y10 y11 y12 y13 y14 y15, LeO (offertorylaw29_LedgerSums.j6 k y0 y1 y2 y3 y4 y5 y6 y7 y8 y9 y10 y11 y12 y13 y14 y15) (offertorylaw29_LedgerSums.j6 (k + 1) y0 y1 y2 y3 y4 y5 y6 y7 y8 y9 y10 y11 y12 y13 y14 y15)) ∧ (∀ y0 y1 y2 y3 y4 y5 y6 y7 y8 y9 y10 y11 y12 y13 y14 y15 y16 y17, LeO (offertorylaw29_LedgerSums.l1 k y0 y1 y2 y3 y4 y5 y6 y7 y8 y9 y10 y11 y12 y13 y14 y15 y16 y17) (offertorylaw29_LedgerSums.l1 (k + 1) y0 y1 y2 y3 y4 y5 y6 y7 y8 y9 y10 y11 y12 y13 y14 y15 y16 y17))
  | 0 => ⟨fun _ _ r h => by simp [offertorylaw29_LedgerSums.j0] at h, fun _ _ _ _ _ _ _ _ _ _ _ _ r h => by simp [offertorylaw29_LedgerSums.j1] at h, fun _ _ _ _ _ _ _ _ _ _ _ r h => by simp [offertorylaw29_LedgerSums.j2] at h, fun _ _ _ _ _ _ _ _ _ _ _ _ r h => by simp [offertorylaw29_LedgerSums.l0] at h, fun _ _ _ _ _ _ _ _ _ _ _ _ _ _ _ _ _ r h => by simp [offertorylaw29_LedgerSums.j4] at h, fun _ _ _ _ _ _ _ _ _ _ _ _ _ _ _ _ r h => by simp [offertorylaw29_LedgerSums.j6] at h, fun _ _ _ _ _ _ _ _ _ _ _ _ _ _ _ _ _ _ r h => by simp [offertorylaw29_LedgerSums.l1] at h⟩
  | k + 1 => by
    obtain ⟨ih0, ih1, ih2, ih3, ih4, ih5, ih6⟩ := offertorylaw29_LedgerSums.mono_l k
    refine ⟨?_, ?_, ?_, ?_, ?_, ?_, ?_⟩
    · intro y0 y1
      unfold offertorylaw29_LedgerSums.j0
      repeat' first
      | (with_reducible exact ih0 _ _)
      | (with_reducible exact ih1 _ _ _ _ _ _ _ _ _ _ _ _)
      | (with_reducible exact ih2 _ _ _ _ _ _ _ _ _ _ _)
      | (with_reducible exact ih3 _ _ _ _ _ _ _ _ _ _ _ _)
      | (with_reducible exact ih4 _ _ _ _ _ _ _ _ _ _ _ _ _ _ _ _ _)
      | (with_reducible exact ih5 _ _ _ _ _ _ _ _ _ _ _ _ _ _ _ _)
      | (with_reducible exact ih6 _ _ _ _ _ _ _ _ _ _ _ _ _ _ _ _ _ _)
      | (with_reducible exact ledger_Sum.mono _ _ _)
      | (with_reducible exact offertorylaw29_awake.mono _)
      | (with_reducible exact offertoryref09_Same.mono _ _ _ _ _ _ _ _ _ _ _ _ _ _ _)
      | (with_reducible exact LeO.refl _)
      | (with_reducible exact LeO.none _)
      | (with_reducible refine LeO.ite ?_ ?_)
      | (with_reducible refine LeO.bind ?_ (fun _ => ?_))
      | exact ih0 _ _
      | exact ih1 _ _ _ _ _ _ _ _ _ _ _ _
      | exact ih2 _ _ _ _ _ _ _ _ _ _ _
      | exact ih3 _ _ _ _ _ _ _ _ _ _ _ _
      | exact ih4 _ _ _ _ _ _ _ _ _ _ _ _ _ _ _ _ _
      | exact ih5 _ _ _ _ _ _ _ _ _ _ _ _ _ _ _ _
      | exact ih6 _ _ _ _ _ _ _ _ _ _ _ _ _ _ _ _ _ _
      | exact ledger_Sum.mono _ _ _
      | exact offertorylaw29_awake.mono _
      | exact offertoryref09_Same.mono _ _ _ _ _ _ _ _ _ _ _ _ _ _ _
      | exact LeO.none _
      | refine LeO.ite ?_ ?_
      | refine LeO.bind ?_ (fun _ => ?_)
    · intro y0 y1 y2 y3 y4 y5 y6 y7 y8 y9 y10 y11
      unfold offertorylaw29_LedgerSums.j1
      repeat' first
      | (with_reducible exact ih0 _ _)
      | (with_reducible exact ih1 _ _ _ _ _ _ _ _ _ _ _ _)
      | (with_reducible exact ih2 _ _ _ _ _ _ _ _ _ _ _)
      | (with_reducible exact ih3 _ _ _ _ _ _ _ _ _ _ _ _)
      | (with_reducible exact ih4 _ _ _ _ _ _ _ _ _ _ _ _ _ _ _ _ _)
      | (with_reducible exact ih5 _ _ _ _ _ _ _ _ _ _ _ _ _ _ _ _)
      | (with_reducible exact ih6 _ _ _ _ _ _ _ _ _ _ _ _ _ _ _ _ _ _)
      | (with_reducible exact ledger_Sum.mono _ _ _)
      | (with_reducible exact offertorylaw29_awake.mono _)
      | (with_reducible exact offertoryref09_Same.mono _ _ _ _ _ _ _ _ _ _ _ _ _ _ _)
      | (with_reducible exact LeO.refl _)
      | (with_reducible exact LeO.none _)
      | (with_reducible refine LeO.ite ?_ ?_)
      | (with_reducible refine LeO.bind ?_ (fun _ => ?_))
      | exact ih0 _ _
      | exact ih1 _ _ _ _ _ _ _ _ _ _ _ _
      | exact ih2 _ _ _ _ _ _ _ _ _ _ _
      | exact ih3 _ _ _ _ _ _ _ _ _ _ _ _
      | exact ih4 _ _ _ _ _ _ _ _ _ _ _ _ _ _ _ _ _
      | exact ih5 _ _ _ _ _ _ _ _ _ _ _ _ _ _ _ _
      | exact ih6 _ _ _ _ _ _ _ _ _ _ _ _ _ _ _ _ _ _
      | exact ledger_Sum.mono _ _ _
      | exact offertorylaw29_awake.mono _
      | exact offertoryref09_Same.mono _ _ _ _ _ _ _ _ _ _ _ _ _ _ _
      | exact LeO.none _
      | refine LeO.ite ?_ ?_
      | refine LeO.bind ?_ (fun _ => ?_)
    · intro y0 y1 y2 y3 y4 y5 y6 y7 y8 y9 y10
      unfold offertorylaw29_LedgerSums.j2
      repeat' first
      | (with_reducible exact ih0 _ _)
      | (with_reducible exact ih1 _ _ _ _ _ _ _ _ _ _ _ _)
      | (with_reducible exact ih2 _ _ _ _ _ _ _ _ _ _ _)
      | (with_reducible exact ih3 _ _ _ _ _ _ _ _ _ _ _ _)
      | (with_reducible exact ih4 _ _ _ _ _ _ _ _ _ _ _ _ _ _ _ _ _)
      | (with_reducible exact ih5 _ _ _ _ _ _ _ _ _ _ _ _ _ _ _ _)
      | (with_reducible exact ih6 _ _ _ _ _ _ _ _ _ _ _ _ _ _ _ _ _ _)
      | (with_reducible exact ledger_Sum.mono _ _ _)
      | (with_reducible exact offertorylaw29_awake.mono _)
      | (with_reducible exact offertoryref09_Same.mono _ _ _ _ _ _ _ _ _ _ _ _ _ _ _)
      | (with_reducible exact LeO.refl _)
      | (with_reducible exact LeO.none _)
      | (with_reducible refine LeO.ite ?_ ?_)
      | (with_reducible refine LeO.bind ?_ (fun _ => ?_))
      | exact ih0 _ _
      | exact ih1 _ _ _ _ _ _ _ _ _ _ _ _
      | exact ih2 _ _ _ _ _ _ _ _ _ _ _
      | exact ih3 _ _ _ _ _ _ _ _ _ _ _ _
      | exact ih4 _ _ _ _ _ _ _ _ _ _ _ _ _ _ _ _ _
      | exact ih5 _ _ _ _ _ _ _ _ _ _ _ _ _ _ _ _
      | exact ih6 _ _ _ _ _ _ _ _ _ _ _ _ _ _ _ _ _ _
      | exact ledger_Sum.mono _ _ _
      | exact offertorylaw29_awake.mono _
      | exact offertoryref09_Same.mono _ _ _ _ _ _ _ _ _ _ _ _ _ _ _
      | exact LeO.none _
      | refine LeO.ite ?_ ?_
      | refine LeO.bind ?_ (fun _ => ?_)
    · intro y0 y1 y2 y3 y4 y5 y6 y7 y8 y9 y10 y11
      unfold offertorylaw29_LedgerSums.l0
      repeat' first
      | (with_reducible exact ih0 _ _)
      | (with_reducible exact ih1 _ _ _ _ _ _ _ _ _ _ _ _)
      | (with_reducible exact ih2 _ _ _ _ _ _ _ _ _ _ _)
      | (with_reducible exact ih3 _ _ _ _ _ _ _ _ _ _ _ _)
      | (with_reducible exact ih4 _ _ _ _ _ _ _ _ _ _ _ _ _ _ _ _ _)
      | (with_reducible exact ih5 _ _ _ _ _ _ _ _ _ _ _ _ _ _ _ _)
      | (with_reducible exact ih6 _ _ _ _ _ _ _ _ _ _ _ _ _ _ _ _ _ _)
      | (with_reducible exact ledger_Sum.mono _ _ _)
      | (with_reducible exact offertorylaw29_awake.mono _)
      | (with_reducible exact offertoryref09_Same.mono _ _ _ _ _ _ _ _ _ _ _ _ _ _ _)
      | (with_reducible exact LeO.refl _)
      | (with_reducible exact LeO.none _)
      | (with_reducible refine LeO.ite ?_ ?_)
      | (with_reducible refine LeO.bind ?_ (fun _ => ?_))
      | exact ih0 _ _
      | exact ih1 _ _ _ _ _ _ _ _ _ _ _ _
      | exact ih2 _ _ _ _ _ _ _ _ _ _ _
      | exact ih3 _ _ _ _ _ _ _ _ _ _ _ _
      | exact ih4 _ _ _ _ _ _ _ _ _ _ _ _ _ _ _ _ _
      | exact ih5 _ _ _ _ _ _ _ _ _ _ _ _ _ _ _ _
      | exact ih6 _ _ _ _ _ _ _ _ _ _ _ _ _ _ _ _ _ _
      | exact ledger_Sum.mono _ _ _
      | exact offertorylaw29_awake.mono _
      | exact offertoryref09_Same.mono _ _ _ _ _ _ _ _ _ _ _ _ _ _ _
      | exact LeO.none _
      | refine LeO.ite ?_ ?_
      | refine LeO.bind ?_ (fun _ => ?_)
    · intro y0 y1 y2 y3 y4 y5 y6 y7 y8 y9 y10 y11 y12 y13 y14 y15 y16
      unfold offertorylaw29_LedgerSums.j4
      repeat' first
      | (with_reducible exact ih0 _ _)
      | (with_reducible exact ih1 _ _ _ _ _ _ _ _ _ _ _ _)
      | (with_reducible exact ih2 _ _ _ _ _ _ _ _ _ _ _)
      | (with_reducible exact ih3 _ _ _ _ _ _ _ _ _ _ _ _)
      | (with_reducible exact ih4 _ _ _ _ _ _ _ _ _ _ _ _ _ _ _ _ _)
      | (with_reducible exact ih5 _ _ _ _ _ _ _ _ _ _ _ _ _ _ _ _)
      | (with_reducible exact ih6 _ _ _ _ _ _ _ _ _ _ _ _ _ _ _ _ _ _)
      | (with_reducible exact ledger_Sum.mono _ _ _)
      | (with_reducible exact offertorylaw29_awake.mono _)
      | (with_reducible exact offertoryref09_Same.mono _ _ _ _ _ _ _ _ _ _ _ _ _ _ _)
      | (with_reducible exact LeO.refl _)
      | (with_reducible exact LeO.none _)
      | (with_reducible refine LeO.ite ?_ ?_)
      | (with_reducible refine LeO.bind ?_ (fun _ => ?_))
      | exact ih0 _ _
      | exact ih1 _ _ _ _ _ _ _ _ _ _ _ _
      | exact ih2 _ _ _ _ _ _ _ _ _ _ _
      | exact ih3 _ _ _ _ _ _ _ _ _ _ _ _
      | exact ih4 _ _ _ _ _ _ _ _ _ _ _ _ _ _ _ _ _
      | exact ih5 _ _ _ _ _ _ _ _ _ _ _ _ _ _ _ _
      | exact ih6 _ _ _ _ _ _ _ _ _ _ _ _ _ _ _ _ _ _
      | exact ledger_Sum.mono _ _ _
      | exact offertorylaw29_awake.mono _
      | exact offertoryref09_Same.mono _ _ _ _ _ _ _ _ _ _ _ _ _ _ _
      | exact LeO.none _
      | refine LeO.ite ?_ ?_
      | refine LeO.bind ?_ (fun _ => ?_)
    · intro y0 y1 y2 y3 y4 y5 y6 y7 y8 y9 y10 y11 y12 y13 y14 y15
      unfold offertorylaw29_LedgerSums.j6
      repeat' first
      | (with_reducible exact ih0 _ _)
      | (with_reducible exact ih1 _ _ _ _ _ _ _ _ _ _ _ _)
      | (with_reducible exact ih2 _ _ _ _ _ _ _ _ _ _ _)
      | (with_reducible exact ih3 _ _ _ _ _ _ _ _ _ _ _ _)
      | (with_reducible exact ih4 _ _ _ _ _ _ _ _ _ _ _ _ _ _ _ _ _)
      | (with_reducible exact ih5 _ _ _ _ _ _ _ _ _ _ _ _ _ _ _ _)
      | (with_reducible exact ih6 _ _ _ _ _ _ _ _ _ _ _ _ _ _ _ _ _ _)
      | (with_reducible exact ledger_Sum.mono _ _ _)
      | (with_reducible exact offertorylaw29_awake.mono _)
      | (with_reducible exact offertoryref09_Same.mono _ _ _ _ _ _ _ _ _ _ _ _ _ _ _)
      | (with_reducible exact LeO.refl _)
      | (with_reducible exact LeO.none _)
      | (with_reducible refine LeO.ite ?_ ?_)
      | (with_reducible refine LeO.bind ?_ (fun _ => ?_))
      | exact ih0 _ _
      | exact ih1 _ _ _ _ _ _ _ _ _ _ _ _
      | exact ih2 _ _ _ _ _ _ _ _ _ _ _
      | exact ih3 _ _ _ _ _ _ _ _ _ _ _ _
      | exact ih4 _ _ _ _ _ _ _ _ _ _ _ _ _ _ _ _ _
      | exact ih5 _ _ _ _ _ _ _ _ _ _ _ _ _ _ _ _
      | exact ih6 _ _ _ _ _ _ _ _ _ _ _ _ _ _ _ _ _ _
      | exact ledger_Sum.mono _ _ _
      | exact offertorylaw29_awake.mono _
      | exact offertoryref09_Same.mono _ _ _ _ _ _ _ _ _ _ _ _ _ _ _
      | exact LeO.none _
      | refine LeO.ite ?_ ?_
      | refine LeO.bind ?_ (fun _ => ?_)
    · intro y0 y1 y2 y3 y4 y5 y6 y7 y8 y9 y10 y11 y12 y13 y14 y15 y16 y17
      unfold offertorylaw29_LedgerSums.l1
      repeat' first
      | (with_reducible exact ih0 _ _)
      | (with_reducible exact ih1 _ _ _ _ _ _ _ _ _ _ _ _)
      | (with_reducible exact ih2 _ _ _ _ _ _ _ _ _ _ _)
      | (with_reducible exact ih3 _ _ _ _ _ _ _ _ _ _ _ _)
      | (with_reducible exact ih4 _ _ _ _ _ _ _ _ _ _ _ _ _ _ _ _ _)
      | (with_reducible exact ih5 _ _ _ _ _ _ _ _ _ _ _ _ _ _ _ _)
      | (with_reducible exact ih6 _ _ _ _ _ _ _ _ _ _ _ _ _ _ _ _ _ _)
      | (with_reducible exact ledger_Sum.mono _ _ _)
      | (with_reducible exact offertorylaw29_awake.mono _)
      | (with_reducible exact offertoryref09_Same.mono _ _ _ _ _ _ _ _ _ _ _ _ _ _ _)
      | (with_reducible exact LeO.refl _)
      | (with_reducible exact LeO.none _)
      | (with_reducible refine LeO.ite ?_ ?_)
      | (with_reducible refine LeO.bind ?_ (fun _ => ?_))
      | exact ih0 _ _
      | exact ih1 _ _ _ _ _ _ _ _ _ _ _ _
      | exact ih2 _ _ _ _ _ _ _ _ _ _ _
      | exact ih3 _ _ _ _ _ _ _ _ _ _ _ _
      | exact ih4 _ _ _ _ _ _ _ _ _ _ _ _ _ _ _ _ _
      | exact ih5 _ _ _ _ _ _ _ _ _ _ _ _ _ _ _ _
      | exact ih6 _ _ _ _ _ _ _ _ _ _ _ _ _ _ _ _ _ _
      | exact ledger_Sum.mono _ _ _
      | exact offertorylaw29_awake.mono _
      | exact offertoryref09_Same.mono _ _ _ _ _ _ _ _ _ _ _ _ _ _ _
      | exact LeO.none _
      | refine LeO.ite ?_ ?_
      | refine LeO.bind ?_ (fun _ => ?_)
theorem offertorylaw29_LedgerSums.mono : ∀ a0 a1 k, LeO (offertorylaw29_LedgerSums.f k a0 a1) (offertorylaw29_LedgerSums.f (k + 1) a0 a1) := by
  intro a0 a1 k
  obtain ⟨ih0, ih1, ih2, ih3, ih4, ih5, ih6⟩ := offertorylaw29_LedgerSums.mono_l k
  unfold offertorylaw29_LedgerSums.f
  repeat' first
      | (with_reducible exact ih0 _ _)
      | (with_reducible exact ih1 _ _ _ _ _ _ _ _ _ _ _ _)
      | (with_reducible exact ih2 _ _ _ _ _ _ _ _ _ _ _)
      | (with_reducible exact ih3 _ _ _ _ _ _ _ _ _ _ _ _)
      | (with_reducible exact ih4 _ _ _ _ _ _ _ _ _ _ _ _ _ _ _ _ _)
      | (with_reducible exact ih5 _ _ _ _ _ _ _ _ _ _ _ _ _ _ _ _)
      | (with_reducible exact ih6 _ _ _ _ _ _ _ _ _ _ _ _ _ _ _ _ _ _)
      | (with_reducible exact ledger_Sum.mono _ _ _)
      | (with_reducible exact offertorylaw29_awake.mono _)
      | (with_reducible exact offertoryref09_Same.mono _ _ _ _ _ _ _ _ _ _ _ _ _ _ _)
      | (with_reducible exact LeO.refl _)
      | (with_reducible exact LeO.none _)
      | (with_reducible refine LeO.ite ?_ ?_)
      | (with_reducible refine LeO.bind ?_ (fun _ => ?_))
      | exact ih0 _ _
      | exact ih1 _ _ _ _ _ _ _ _ _ _ _ _
      | exact ih2 _ _ _ _ _ _ _ _ _ _ _
      | exact ih3 _ _ _ _ _ _ _ _ _ _ _ _
      | exact ih4 _ _ _ _ _ _ _ _ _ _ _ _ _ _ _ _ _
      | exact ih5 _ _ _ _ _ _ _ _ _ _ _ _ _ _ _ _
      | exact ih6 _ _ _ _ _ _ _ _ _ _ _ _ _ _ _ _ _ _
      | exact ledger_Sum.mono _ _ _
      | exact offertorylaw29_awake.mono _
      | exact offertoryref09_Same.mono _ _ _ _ _ _ _ _ _ _ _ _ _ _ _
      | exact LeO.none _
      | refine LeO.ite ?_ ?_
      | refine LeO.bind ?_ (fun _ => ?_)
def offertorylaw29_LedgerSums.T18 : Bool × List (List Nat × List Nat) := (true, [([], []), ([], []), ([], []), ([1, 2], [1, 2]), ([3], [3]), ([0, 4], [0, 4]), ([5], [5]), ([6], [6]), ([6], [6]), ([7, 5, 0, 1, 2, 3, 4, 5, 6, 7], [7]), ([8, 9, 0, 1, 2, 3, 4, 5, 6, 7, 8, 9], [8])])
def offertorylaw29_LedgerSums.B18 : List Nat := [0, 0, 0, 6, 14, 31, 63, 127, 127, 255, 1023]
theorem offertorylaw29_LedgerSums.tab18 : rtab .any (opsOf Try.f5 18) = offertorylaw29_LedgerSums.T18 := by kernel_rfl
theorem offertorylaw29_LedgerSums.bits18 : waitsOk offertorylaw29_LedgerSums.T18.2 offertorylaw29_LedgerSums.B18 = true := by kernel_rfl
set_option maxHeartbeats 8000000 in
set_option maxRecDepth 100000 in
theorem offertorylaw29_LedgerSums.calls (k : Nat) (a0 : Int) (P1_ : Nat → Prop) (A1 : Option Addr) (c1 : Nat) (l1 : List (S27)) (r : Bool) (w : World) (hs1 : Kd.V k27 27 w w.heap.size (fun k_ => P1_ k_) (.slice A1 l1.length c1) l1) (h : offertorylaw29_LedgerSums.f k a0 l1 = some r) :
    Calls Try.prog 5 #[.int .i64 a0, .slice A1 l1.length c1] w fun e w' => e = .returned (.bool r) ∧ Below w.heap.size w w' := by
  have hu27 := Try.underlying27
  have HO1 := Aside0.mk (show Kd.V k27 27 w w.heap.size (fun k_ => (P1_ k_ ∨ w.heap.size ≤ k_)) (.slice A1 l1.length c1) l1 from Kd.V_mono hs1 (fun k_ hk => .inl hk))
  have HB := Aside0.mk (Below.refl w.heap.size w)
  have H : (if (l1.length : Int) > 12 then (if 12 ≤ (l1.length : Int) then (offertorylaw29_LedgerSums.j0 k a0 (l1.take 12)) else (none)) else (offertorylaw29_LedgerSums.j0 k a0 l1)) = some r := h
  clear h
  have HC3 := Aside0.mk H
  clear H
  go_enter Try.func5, Try.ntmps5
  go_upto_if 13 with (fail)
  go_cut [1] (fun v1 wc => ∃ (kq : Nat) (x1_2 : List (S27)), Aside0 (offertorylaw29_LedgerSums.j0 kq a0 x1_2 = some r) ∧ Aside0 (kq ≤ k) ∧ Aside0 (Kd.V k27 27 wc w.heap.size (fun k_ => (P1_ k_ ∨ w.heap.size ≤ k_)) v1 x1_2) ∧ Aside0 (Below w.heap.size w wc))
  case first =>
    have H := HC3.out
    clear HC3
    by_cases c4 : (l1.length : Int) > 12
    · rw [if_pos c4] at H
      have c4b0 : decide (12 < (l1.length : Int)) = true := decide_eq_true c4
      have c4b1 : decide (12 < l1.length) = true := decide_eq_true (by omega)
      clear c4
      (first | rw [c4b0] | (simp only [i64_w, i32_w]; rw [c4b0]) | skip)
      by_cases c5 : 12 ≤ (l1.length : Int)
      · rw [if_pos c5] at H
        have c5b0 := eq_true c5
        have c5b1 : decide (12 ≤ (l1.length : Int)) = true := decide_eq_true c5
        clear c5
        obtain ⟨y278, hy278⟩ : ∃ y_ : List (S27), y_ = (l1.take 12) := ⟨_, rfl⟩
        replace H : (offertorylaw29_LedgerSums.j0 k a0 y278) = some r := by first | (rw [hy278]; with_reducible exact H) | (have H2_ := (Option.bind_some _ _).symm.trans H; rw [hy278]; with_reducible exact H2_) | (have H2_ := (Option.bind_some _ _).symm.trans H; with_reducible exact H2_) | with_reducible exact H | (rw [hy278]; exact H) | exact H
        have Ny278 := Aside0.mk hy278
        clear hy278
        have H' := Aside0.mk H
        clear H
        have q6 : (12 : Int) ≤ ((l1.length : Int) : Int) := of_decide_eq_true (by first | (with_reducible assumption) | assumption)
        obtain ⟨i06, hi06, _, hsz6, _⟩ := info_parts info27
        have hroom6 : l1.length ≤ c1 := (Kd.V_reads' HO1.out).2.1
        have hC6 : Kd.F k27 _ _ A1 l1.length l1 := (Kd.V_at (base := w.heap.size) HO1.out).2.2
        have hcut6 := cut_to (P := Try.prog) 34 27 .i64 Try.underlying34 hi06 A1 l1.length c1 12 (by omega) q6 hroom6
        have hr6 := Kd.F_take (m := 12) hC6 (by omega)
        have hy6 : y278.length = (12 : Int).toNat := (by rw [Ny278.out, List.length_take]; omega)
        rw [← Ny278.out] at hr6
        rw [← hy6] at hcut6
        have HO282 := Aside0.mk (show Kd.V k27 27 _ w.heap.size _ (.slice A1 y278.length c1) y278 from Kd.V_mk (by omega) hr6)
        have HC282 := Aside0.mk (show y278.length ≤ c1 from by omega)
        clear hr6 hC6 hroom6 hi06 hsz6
        have KY6 := Aside0.mk hy6
        clear hy6
        replace q6 := eq_true q6
        go_wp2
        go_meet
        case rel => exact ⟨_, (y278), H', ⟨by first | omega | exact Nat.le_refl _⟩, ⟨by (with_reducible repeat (first | apply Kd.V_alloc | apply Kd.V_drewN | apply Kd.V_drew)); exact HO282.out⟩, ⟨by repeat (first | (with_reducible first | exact HB.out | apply below_alloc | apply pw_below_drewN | apply below_drew1) | exact HB.out)⟩⟩
      · rw [if_neg c5] at H
        exact absurd H (by simp)
    · rw [if_neg c4] at H
      have c4b0 : decide (12 < (l1.length : Int)) = false := decide_eq_false c4
      have c4b1 : decide (12 < l1.length) = false := decide_eq_false (by omega)
      clear c4
      (first | rw [c4b0] | (simp only [i64_w, i32_w]; rw [c4b0]) | skip)
      have H' := Aside0.mk H
      clear H
      go_wp2
      go_meet
      case rel => exact ⟨_, (l1), H', ⟨by first | omega | exact Nat.le_refl _⟩, ⟨by (with_reducible repeat (first | apply Kd.V_alloc | apply Kd.V_drewN | apply Kd.V_drew)); exact HO1.out⟩, ⟨by repeat (first | (with_reducible first | exact HB.out | apply below_alloc | apply pw_below_drewN | apply below_drew1) | exact HB.out)⟩⟩
  case rest =>
    clear HC3
    try clear c1
    try clear p2
    try clear c4
    try clear c4b0
    try clear c4b1
    try clear c5
    try clear c5b0
    try clear c5b1
    try clear q6
    try clear q6
    obtain ⟨kq, x1_2, HA, HJ2, HO_1, HB⟩ := hcut
    cases kq with
    | zero => exact absurd HA.out (by simp [offertorylaw29_LedgerSums.j0])
    | succ kj2 =>
      have H := HA.out
      clear HA
      simp only [offertorylaw29_LedgerSums.j0] at H
      replace H := Option.bind_eq_some_iff.mp H
      obtain ⟨⟨t283, t286, t287, t288, t289, t290, t291, t292⟩, A70, H⟩ := H
      replace H : (if a0 < 0 then (offertorylaw29_LedgerSums.j1 kj2 a0 x1_2 t292 0 true t283 t286 t287 t288 t289 t290 t291) else (offertorylaw29_LedgerSums.j1 kj2 a0 x1_2 t292 0 (decide (a0 > 256)) t283 t286 t287 t288 t289 t290 t291)) = some r := H
      have A7 := Aside0.mk A70
      clear A70
      have HC8 := Aside0.mk H
      clear H
      obtain ⟨Ao9, co9, eo9⟩ := Kd.V_slice HO_1.out
      subst eo9
      go_upto_region 5 with (first | ((with_reducible refine gate_callee (f := 12) rfl ?_); refine goesL_ (some 19) rfl rfl Try.func12 (by kernel_rfl) rfl #[.int .i64 a0, .slice Ao9 x1_2.length co9] rfl (by (try simp only [List.map_toArray, List.map_cons, List.map_nil]); first | done | rfl | (simp only [List.length_drop, List.length_take]; rfl)) ?_; (with_reducible refine (ledger_Sum.calls kj2 a0 _ _ x1_2 t283 t286 t287 t288 t289 t290 t291 t292 _ ?side1 ?side2 A7.out).mono ?_); (case side1 => repeat (first | exact (Kd.V_reads' HO_1.out).2.2 | (with_reducible refine Kd.C_alloc ?_ _) | (with_reducible refine Kd.C_drewN ?_ _) | (with_reducible refine Kd.C_drew ?_))); (case side2 => exact (Kd.V_reads' HO_1.out).2.1); rintro e w10 ⟨v284, rfl, ho0, hb⟩; refine ⟨_, rfl, ?_⟩; have n0_ := Aside0.mk (Kd.V_elder' (by (with_reducible repeat (first | apply Kd.V_alloc | apply Kd.V_drewN | apply Kd.V_drew)); exact HO_1.out) (Kd.R_base ho0) hb); have n1_ := Aside0.mk (Kd.R_lower (Kd.R_newM (M := fun k_ => (w.heap.size ≤ k_)) ho0 (below_size (by repeat (first | (with_reducible first | exact HB.out | apply below_alloc | apply pw_below_drewN | apply below_drew1) | exact HB.out))) (fun k_ h_ => h_)) (below_size (by repeat (first | (with_reducible first | exact HB.out | apply below_alloc | apply pw_below_drewN | apply below_drew1) | exact HB.out)))); have n2_ := Aside0.mk (below_step (by repeat (first | (with_reducible first | exact HB.out | apply below_alloc | apply pw_below_drewN | apply below_drew1) | exact HB.out)) hb); clear HO_1; clear HB; have HO_1 := n0_; have HO285 := n1_; have HB := n2_; clear n0_ n1_ n2_; (try clear hb); (try clear hb2); (try clear hk); (try clear hi); (try clear ho0)) | ((with_reducible refine gate_dst (N := 5) rfl ?_); refine box_event ?hg (N := 5) ?hd (cs := #[.slice none 0 0, .int .i64 0, .int .u64 0, .int .u64 0, .int .u64 0, .int .u64 0, .bool false]) (t := 27) ?hr ?_; (case hd => rfl); (case hg => rfl); (case hr => first | (go_simp; done) | (go_simp; rfl)); intro gb293 hg w11 hbox hb; have n0_ := Aside0.mk (Kd.V_below (Kd.V_elderB (by (with_reducible repeat (first | apply Kd.V_alloc | apply Kd.V_drewN | apply Kd.V_drew)); exact HO_1.out) gb293 (Nat.le_of_eq hg.symm)) hb); have n1_ := Aside0.mk (Kd.R_below (by (with_reducible repeat (first | apply Kd.R_alloc | apply Kd.R_drewN | apply Kd.R_drew)); exact HO285.out) hb); have n2_ := Aside0.mk (below_step (by repeat (first | (with_reducible first | exact HB.out | apply below_alloc | apply pw_below_drewN | apply below_drew1) | exact HB.out)) hb); have n3_ := Aside0.mk (hbox); have n4_ := Aside0.mk ((by rw [hg]; exact (below_size (by repeat (first | (with_reducible first | exact HB.out | apply below_alloc | apply pw_below_drewN | apply below_drew1) | exact HB.out))) : w.heap.size ≤ gb293)); have n5_ := Aside0.mk ((by rw [hg]; exact (below_size (by repeat (first | (with_reducible first | exact HB.out | apply below_alloc | apply pw_below_drewN | apply below_drew1) | exact HB.out))) : w.heap.size ≤ gb293)); clear HO_1; clear HO285; clear HB; have HO_1 := n0_; have HO285 := n1_; have HB := n2_; have BK293 := n3_; have GW293 := n4_; have GE293 := n5_; clear n0_ n1_ n2_ n3_ n4_ n5_; clear hb hbox hg; obtain ⟨Ao12, co12, eo12⟩ := Kd.R_slice HO285.out; subst eo12; have hcz13_0 : w11.cell? ⟨gb293, 0, none⟩ = some (.slice none 0 0) := (blk_cell BK293.out 0).trans rfl; have hcz13_1 : w11.cell? ⟨gb293, 1, none⟩ = some (.int .i64 0) := (blk_cell BK293.out 1).trans rfl; have hcz13_2 : w11.cell? ⟨gb293, 2, none⟩ = some (.int .u64 0) := (blk_cell BK293.out 2).trans rfl; have hcz13_3 : w11.cell? ⟨gb293, 3, none⟩ = some (.int .u64 0) := (blk_cell BK293.out 3).trans rfl; have hcz13_4 : w11.cell? ⟨gb293, 4, none⟩ = some (.int .u64 0) := (blk_cell BK293.out 4).trans rfl; have hcz13_5 : w11.cell? ⟨gb293, 5, none⟩ = some (.int .u64 0) := (blk_cell BK293.out 5).trans rfl; have hcz13_6 : w11.cell? ⟨gb293, 6, none⟩ = some (.bool false) := (blk_cell BK293.out 6).trans rfl; have hfz13_0 := blk_frozen BK293.out 0; have hfz13_1 := blk_frozen BK293.out 1; have hfz13_2 := blk_frozen BK293.out 2; have hfz13_3 := blk_frozen BK293.out 3; have hfz13_4 := blk_frozen BK293.out 4; have hfz13_5 := blk_frozen BK293.out 5; have hfz13_6 := blk_frozen BK293.out 6))
      (try simp only [Act.put, List.setIfInBounds_toArray, List.set_cons_zero, List.set_cons_succ])
      go_cut [27] (fun v27 wc => ∃ (kq : Nat) (x27_7 : Bool), v27 = .bool x27_7 ∧ Aside0 (offertorylaw29_LedgerSums.j1 kq a0 x1_2 t292 0 x27_7 t283 t286 t287 t288 t289 t290 t291 = some r) ∧ Aside0 (kq ≤ kj2) ∧ Aside0 (Kd.V k27 27 wc w.heap.size (fun k_ => (P1_ k_ ∨ w.heap.size ≤ k_) ∧ some k_ ≠ ((.slice Ao12 t283.length co12) : Value).ownBlock ∧ k_ ≠ gb293) (.slice Ao9 x1_2.length co9) x1_2) ∧ Aside0 (Kd.R (Kd.int .i64) 3 wc w.heap.size (fun k_ => (w.heap.size ≤ k_)) (.slice Ao12 t283.length co12) t283) ∧ Aside0 (wc.heap[gb293]? = some (.cells #[(.slice Ao12 t283.length co12), .int .i64 t286, .int .u64 t287, .int .u64 t288, .int .u64 t289, .int .u64 t290, .bool t291] 27 (0, 0))) ∧ Aside0 (Below w.heap.size w wc))
      case first =>
        have H := HC8.out
        clear HC8
        by_cases c14 : a0 < 0
        · rw [if_pos c14] at H
          have c14b0 : decide (a0 < 0) = true := decide_eq_true c14
          clear c14
          (first | rw [c14b0] | (simp only [i64_w, i32_w]; rw [c14b0]) | skip)
          have H' := Aside0.mk H
          clear H
          go_wp2
          go_meet
          case rel => exact ⟨_, (true), (by first | rfl | (simp; done) | (simp [*]; done)), H', ⟨by have := HJ2.out; first | omega | exact Nat.le_refl _⟩, ⟨by (with_reducible repeat (first | apply Kd.V_alloc | apply Kd.V_drewN | apply Kd.V_drew)); exact Kd.V_mono (Kd.V_far (p := ⟨gb293, 6, none⟩) (Kd.V_far (p := ⟨gb293, 5, none⟩) (Kd.V_far (p := ⟨gb293, 4, none⟩) (Kd.V_far (p := ⟨gb293, 3, none⟩) (Kd.V_far (p := ⟨gb293, 2, none⟩) (Kd.V_far (p := ⟨gb293, 1, none⟩) (Kd.V_far (p := ⟨gb293, 0, none⟩) (Kd.V_mono HO_1.out (fun k_ hk => (⟨hk, hk.2⟩ : _ ∧ k_ ≠ gb293))) (fun _ hk => hk.2) (.slice Ao12 t283.length co12)) (fun _ hk => hk.2) (.int .i64 t286)) (fun _ hk => hk.2) (.int .u64 t287)) (fun _ hk => hk.2) (.int .u64 t288)) (fun _ hk => hk.2) (.int .u64 t289)) (fun _ hk => hk.2) (.int .u64 t290)) (fun _ hk => hk.2) (.bool t291)) (fun _ hk => ⟨hk.1.1.1, ⟨hk.1.1.2, hk.1.2⟩⟩)⟩, ⟨by (with_reducible repeat (first | apply Kd.R_alloc | apply Kd.R_drewN | apply Kd.R_drew)); exact Kd.R_mono (Kd.R_far (p := ⟨gb293, 6, none⟩) (Kd.R_far (p := ⟨gb293, 5, none⟩) (Kd.R_far (p := ⟨gb293, 4, none⟩) (Kd.R_far (p := ⟨gb293, 3, none⟩) (Kd.R_far (p := ⟨gb293, 2, none⟩) (Kd.R_far (p := ⟨gb293, 1, none⟩) (Kd.R_far (p := ⟨gb293, 0, none⟩) (Kd.R_types HO285.out BK293.out (by decide)) (fun _ hk => hk.2) (.slice Ao12 t283.length co12)) (fun _ hk => hk.2) (.int .i64 t286)) (fun _ hk => hk.2) (.int .u64 t287)) (fun _ hk => hk.2) (.int .u64 t288)) (fun _ hk => hk.2) (.int .u64 t289)) (fun _ hk => hk.2) (.int .u64 t290)) (fun _ hk => hk.2) (.bool t291)) (fun _ hk => hk.1.1)⟩, ⟨by (with_reducible repeat (first | refine blk_drewN ?_ _ | refine blk_drew ?_ | refine blk_alloc ?_ _)); refine blk_put (cs := #[.slice Ao12 t283.length co12, .int .i64 t286, .int .u64 t287, .int .u64 t288, .int .u64 t289, .int .u64 t290, .bool false]) ?_ 6 _ rfl; (with_reducible repeat (first | refine blk_drewN ?_ _ | refine blk_drew ?_ | refine blk_alloc ?_ _)); refine blk_put (cs := #[.slice Ao12 t283.length co12, .int .i64 t286, .int .u64 t287, .int .u64 t288, .int .u64 t289, .int .u64 0, .bool false]) ?_ 5 _ rfl; (with_reducible repeat (first | refine blk_drewN ?_ _ | refine blk_drew ?_ | refine blk_alloc ?_ _)); refine blk_put (cs := #[.slice Ao12 t283.length co12, .int .i64 t286, .int .u64 t287, .int .u64 t288, .int .u64 0, .int .u64 0, .bool false]) ?_ 4 _ rfl; (with_reducible repeat (first | refine blk_drewN ?_ _ | refine blk_drew ?_ | refine blk_alloc ?_ _)); refine blk_put (cs := #[.slice Ao12 t283.length co12, .int .i64 t286, .int .u64 t287, .int .u64 0, .int .u64 0, .int .u64 0, .bool false]) ?_ 3 _ rfl; (with_reducible repeat (first | refine blk_drewN ?_ _ | refine blk_drew ?_ | refine blk_alloc ?_ _)); refine blk_put (cs := #[.slice Ao12 t283.length co12, .int .i64 t286, .int .u64 0, .int .u64 0, .int .u64 0, .int .u64 0, .bool false]) ?_ 2 _ rfl; (with_reducible repeat (first | refine blk_drewN ?_ _ | refine blk_drew ?_ | refine blk_alloc ?_ _)); refine blk_put (cs := #[.slice Ao12 t283.length co12, .int .i64 0, .int .u64 0, .int .u64 0, .int .u64 0, .int .u64 0, .bool false]) ?_ 1 _ rfl; (with_reducible repeat (first | refine blk_drewN ?_ _ | refine blk_drew ?_ | refine blk_alloc ?_ _)); refine blk_put (cs := #[.slice none 0 0, .int .i64 0, .int .u64 0, .int .u64 0, .int .u64 0, .int .u64 0, .bool false]) ?_ 0 _ rfl; (with_reducible repeat (first | refine blk_drewN ?_ _ | refine blk_drew ?_ | refine blk_alloc ?_ _)); exact BK293.out⟩, ⟨by repeat (first | (with_reducible first | exact HB.out | apply below_alloc | apply pw_below_drewN | apply below_drew1 | refine below_set ?_ GE293.out) | exact HB.out)⟩⟩
        · rw [if_neg c14] at H
          have c14b0 : decide (a0 < 0) = false := decide_eq_false c14
          clear c14
          (first | rw [c14b0] | (simp only [i64_w, i32_w]; rw [c14b0]) | skip)
          have H' := Aside0.mk H
          clear H
          go_wp2
          go_meet
          case rel => exact ⟨_, (decide (a0 > 256)), (by first | rfl | (simp; done) | (simp [*]; done)), H', ⟨by have := HJ2.out; first | omega | exact Nat.le_refl _⟩, ⟨by (with_reducible repeat (first | apply Kd.V_alloc | apply Kd.V_drewN | apply Kd.V_drew)); exact Kd.V_mono (Kd.V_far (p := ⟨gb293, 6, none⟩) (Kd.V_far (p := ⟨gb293, 5, none⟩) (Kd.V_far (p := ⟨gb293, 4, none⟩) (Kd.V_far (p := ⟨gb293, 3, none⟩) (Kd.V_far (p := ⟨gb293, 2, none⟩) (Kd.V_far (p := ⟨gb293, 1, none⟩) (Kd.V_far (p := ⟨gb293, 0, none⟩) (Kd.V_mono HO_1.out (fun k_ hk => (⟨hk, hk.2⟩ : _ ∧ k_ ≠ gb293))) (fun _ hk => hk.2) (.slice Ao12 t283.length co12)) (fun _ hk => hk.2) (.int .i64 t286)) (fun _ hk => hk.2) (.int .u64 t287)) (fun _ hk => hk.2) (.int .u64 t288)) (fun _ hk => hk.2) (.int .u64 t289)) (fun _ hk => hk.2) (.int .u64 t290)) (fun _ hk => hk.2) (.bool t291)) (fun _ hk => ⟨hk.1.1.1, ⟨hk.1.1.2, hk.1.2⟩⟩)⟩, ⟨by (with_reducible repeat (first | apply Kd.R_alloc | apply Kd.R_drewN | apply Kd.R_drew)); exact Kd.R_mono (Kd.R_far (p := ⟨gb293, 6, none⟩) (Kd.R_far (p := ⟨gb293, 5, none⟩) (Kd.R_far (p := ⟨gb293, 4, none⟩) (Kd.R_far (p := ⟨gb293, 3, none⟩) (Kd.R_far (p := ⟨gb293, 2, none⟩) (Kd.R_far (p := ⟨gb293, 1, none⟩) (Kd.R_far (p := ⟨gb293, 0, none⟩) (Kd.R_types HO285.out BK293.out (by decide)) (fun _ hk => hk.2) (.slice Ao12 t283.length co12)) (fun _ hk => hk.2) (.int .i64 t286)) (fun _ hk => hk.2) (.int .u64 t287)) (fun _ hk => hk.2) (.int .u64 t288)) (fun _ hk => hk.2) (.int .u64 t289)) (fun _ hk => hk.2) (.int .u64 t290)) (fun _ hk => hk.2) (.bool t291)) (fun _ hk => hk.1.1)⟩, ⟨by (with_reducible repeat (first | refine blk_drewN ?_ _ | refine blk_drew ?_ | refine blk_alloc ?_ _)); refine blk_put (cs := #[.slice Ao12 t283.length co12, .int .i64 t286, .int .u64 t287, .int .u64 t288, .int .u64 t289, .int .u64 t290, .bool false]) ?_ 6 _ rfl; (with_reducible repeat (first | refine blk_drewN ?_ _ | refine blk_drew ?_ | refine blk_alloc ?_ _)); refine blk_put (cs := #[.slice Ao12 t283.length co12, .int .i64 t286, .int .u64 t287, .int .u64 t288, .int .u64 t289, .int .u64 0, .bool false]) ?_ 5 _ rfl; (with_reducible repeat (first | refine blk_drewN ?_ _ | refine blk_drew ?_ | refine blk_alloc ?_ _)); refine blk_put (cs := #[.slice Ao12 t283.length co12, .int .i64 t286, .int .u64 t287, .int .u64 t288, .int .u64 0, .int .u64 0, .bool false]) ?_ 4 _ rfl; (with_reducible repeat (first | refine blk_drewN ?_ _ | refine blk_drew ?_ | refine blk_alloc ?_ _)); refine blk_put (cs := #[.slice Ao12 t283.length co12, .int .i64 t286, .int .u64 t287, .int .u64 0, .int .u64 0, .int .u64 0, .bool false]) ?_ 3 _ rfl; (with_reducible repeat (first | refine blk_drewN ?_ _ | refine blk_drew ?_ | refine blk_alloc ?_ _)); refine blk_put (cs := #[.slice Ao12 t283.length co12, .int .i64 t286, .int .u64 0, .int .u64 0, .int .u64 0, .int .u64 0, .bool false]) ?_ 2 _ rfl; (with_reducible repeat (first | refine blk_drewN ?_ _ | refine blk_drew ?_ | refine blk_alloc ?_ _)); refine blk_put (cs := #[.slice Ao12 t283.length co12, .int .i64 0, .int .u64 0, .int .u64 0, .int .u64 0, .int .u64 0, .bool false]) ?_ 1 _ rfl; (with_reducible repeat (first | refine blk_drewN ?_ _ | refine blk_drew ?_ | refine blk_alloc ?_ _)); refine blk_put (cs := #[.slice none 0 0, .int .i64 0, .int .u64 0, .int .u64 0, .int .u64 0, .int .u64 0, .bool false]) ?_ 0 _ rfl; (with_reducible repeat (first | refine blk_drewN ?_ _ | refine blk_drew ?_ | refine blk_alloc ?_ _)); exact BK293.out⟩, ⟨by repeat (first | (with_reducible first | exact HB.out | apply below_alloc | apply pw_below_drewN | apply below_drew1 | refine below_set ?_ GE293.out) | exact HB.out)⟩⟩
      case rest =>
        clear HC8
        try clear c1
        try clear p2
        try clear c4
        try clear c4b0
        try clear c4b1
        try clear c5
        try clear c5b0
        try clear c5b1
        try clear q6
        try clear c12
        try clear c14
        try clear c14b0
        try clear hcz13_0
        try clear hcz13_1
        try clear hcz13_2
        try clear hcz13_3
        try clear hcz13_4
        try clear hcz13_5
        try clear hcz13_6
        try clear hfz13_0
        try clear hfz13_1
        try clear hfz13_2
        try clear hfz13_3
        try clear hfz13_4
        try clear hfz13_5
        try clear hfz13_6
        try clear p2
        try clear q6
        obtain ⟨kq, x27_7, rfl, HA, HJ7, HO_1, HO_294000, BK293, HB⟩ := hcut
        cases kq with
        | zero => exact absurd HA.out (by simp [offertorylaw29_LedgerSums.j1])
        | succ kj7 =>
          have H := HA.out
          clear HA
          simp only [offertorylaw29_LedgerSums.j1] at H
          have HC15 := Aside0.mk H
          clear H
          go_upto_if 27 with (fail)
          go_cut [7] (fun v7 wc => ∃ (kq : Nat) (x7_14 : Int), v7 = .int .i64 x7_14 ∧ Aside0 (offertorylaw29_LedgerSums.j2 kq a0 x1_2 t292 x7_14 t283 t286 t287 t288 t289 t290 t291 = some r) ∧ Aside0 (kq ≤ kj7) ∧ Aside0 (Kd.V k27 27 wc w.heap.size (fun k_ => (P1_ k_ ∨ w.heap.size ≤ k_) ∧ some k_ ≠ ((.slice Ao12 t283.length co12) : Value).ownBlock ∧ k_ ≠ gb293) (.slice Ao9 x1_2.length co9) x1_2) ∧ Aside0 (Kd.R (Kd.int .i64) 3 wc w.heap.size (fun k_ => (w.heap.size ≤ k_)) (.slice Ao12 t283.length co12) t283) ∧ Aside0 (wc.heap[gb293]? = some (.cells #[(.slice Ao12 t283.length co12), .int .i64 t286, .int .u64 t287, .int .u64 t288, .int .u64 t289, .int .u64 t290, .bool t291] 27 (0, 0))) ∧ Aside0 (Below w.heap.size w wc))
          case first =>
            have H := HC15.out
            clear HC15
            by_cases c16 : x27_7 = true
            · subst c16
              have H1 : (offertorylaw29_LedgerSums.j2 kj7 a0 x1_2 t292 1 t283 t286 t287 t288 t289 t290 t291) = some r := by rw [if_pos rfl] at H; exact H
              clear H
              have H := H1
              clear H1
              have H' := Aside0.mk H
              clear H
              go_wp2
              go_meet
              case rel => exact ⟨_, (1), (by first | rfl | (simp; done) | (simp [*]; done)), H', ⟨by have := HJ2.out; have := HJ7.out; first | omega | exact Nat.le_refl _⟩, ⟨by (with_reducible repeat (first | apply Kd.V_alloc | apply Kd.V_drewN | apply Kd.V_drew)); exact HO_1.out⟩, ⟨by (with_reducible repeat (first | apply Kd.R_alloc | apply Kd.R_drewN | apply Kd.R_drew)); exact HO_294000.out⟩, ⟨by (with_reducible repeat (first | refine blk_drewN ?_ _ | refine blk_drew ?_ | refine blk_alloc ?_ _)); exact BK293.out⟩, ⟨by repeat (first | (with_reducible first | exact HB.out | apply below_alloc | apply pw_below_drewN | apply below_drew1 | refine below_set ?_ GE293.out) | exact HB.out)⟩⟩
            · replace c16 := Bool.eq_false_iff.mpr c16
              subst c16
              have H1 : (offertorylaw29_LedgerSums.j2 kj7 a0 x1_2 t292 0 t283 t286 t287 t288 t289 t290 t291) = some r := by rw [if_neg (show ¬ (false = true) by decide)] at H; exact H
              clear H
              have H := H1
              clear H1
              have H' := Aside0.mk H
              clear H
              go_wp2
              go_meet
              case rel => exact ⟨_, (0), (by first | rfl | (simp; done) | (simp [*]; done)), H', ⟨by have := HJ2.out; have := HJ7.out; first | omega | exact Nat.le_refl _⟩, ⟨by (with_reducible repeat (first | apply Kd.V_alloc | apply Kd.V_drewN | apply Kd.V_drew)); exact HO_1.out⟩, ⟨by (with_reducible repeat (first | apply Kd.R_alloc | apply Kd.R_drewN | apply Kd.R_drew)); exact HO_294000.out⟩, ⟨by (with_reducible repeat (first | refine blk_drewN ?_ _ | refine blk_drew ?_ | refine blk_alloc ?_ _)); exact BK293.out⟩, ⟨by repeat (first | (with_reducible first | exact HB.out | apply below_alloc | apply pw_below_drewN | apply below_drew1 | refine below_set ?_ GE293.out) | exact HB.out)⟩⟩
          case rest =>
            clear HC15
            try clear c1
            try clear p2
            try clear c4
            try clear c4b0
            try clear c4b1
            try clear c5
            try clear c5b0
            try clear c5b1
            try clear q6
            try clear c12
            try clear c14
            try clear c14b0
            try clear c16
            try clear hcz13_0
            try clear hcz13_1
            try clear hcz13_2
            try clear hcz13_3
            try clear hcz13_4
            try clear hcz13_5
            try clear hcz13_6
            try clear hfz13_0
            try clear hfz13_1
            try clear hfz13_2
            try clear hfz13_3
            try clear hfz13_4
            try clear hfz13_5
            try clear hfz13_6
            try clear p2
            try clear q6
            obtain ⟨kq, x7_14, rfl, HA, HJ14, HO_1, HO_294000, BK293, HB⟩ := hcut
            cases kq with
            | zero => exact absurd HA.out (by simp [offertorylaw29_LedgerSums.j2])
            | succ kj14 =>
              have H := HA.out
              clear HA
              simp only [offertorylaw29_LedgerSums.j2] at H
              have H' := Aside0.mk H
              clear H
              go_wp2
              go_loopg [7, 8] kj14 (fun kq v7 v8 w' => ∃ (x7_4 : Int) (x8_4 : Int), v7 = .int .i64 x7_4 ∧ v8 = .int .i64 x8_4 ∧ Aside0 (offertorylaw29_LedgerSums.l0 kq a0 x1_2 t292 x7_4 x8_4 t283 t286 t287 t288 t289 t290 t291 = some r) ∧ Aside0 (kq ≤ kj14) ∧ Aside0 (Kd.V k27 27 w' w.heap.size (fun k_ => (P1_ k_ ∨ w.heap.size ≤ k_) ∧ some k_ ≠ ((.slice Ao12 t283.length co12) : Value).ownBlock ∧ k_ ≠ gb293) (.slice Ao9 x1_2.length co9) x1_2) ∧ Aside0 (Kd.R (Kd.int .i64) 3 w' w.heap.size (fun k_ => (w.heap.size ≤ k_)) (.slice Ao12 t283.length co12) t283) ∧ Aside0 (w'.heap[gb293]? = some (.cells #[(.slice Ao12 t283.length co12), .int .i64 t286, .int .u64 t287, .int .u64 t288, .int .u64 t289, .int .u64 t290, .bool t291] 27 (0, 0))) ∧ Aside0 (Below w.heap.size w w'))
              case atStart => exact ⟨(x7_14), (0), (by first | rfl | (simp; done) | (simp [*]; done)), (by first | rfl | (simp; done) | (simp [*]; done)), H', ⟨Nat.le_refl _⟩, ⟨by (with_reducible repeat (first | apply Kd.V_alloc | apply Kd.V_drewN | apply Kd.V_drew)); exact HO_1.out⟩, ⟨by (with_reducible repeat (first | apply Kd.R_alloc | apply Kd.R_drewN | apply Kd.R_drew)); exact HO_294000.out⟩, ⟨by (with_reducible repeat (first | refine blk_drewN ?_ _ | refine blk_drew ?_ | refine blk_alloc ?_ _)); exact BK293.out⟩, ⟨by repeat (first | (with_reducible first | exact HB.out | apply below_alloc | apply pw_below_drewN | apply below_drew1 | refine below_set ?_ GE293.out) | exact HB.out)⟩⟩
              case round =>
                clear H'
                try clear c1
                try clear p2
                try clear c4
                try clear c4b0
                try clear c4b1
                try clear c5
                try clear c5b0
                try clear c5b1
                try clear q6
                try clear c12
                try clear c14
                try clear c14b0
                try clear c16
                try clear hcz13_0
                try clear hcz13_1
                try clear hcz13_2
                try clear hcz13_3
                try clear hcz13_4
                try clear hcz13_5
                try clear hcz13_6
                try clear hfz13_0
                try clear hfz13_1
                try clear hfz13_2
                try clear hfz13_3
                try clear hfz13_4
                try clear hfz13_5
                try clear hfz13_6
                try clear p2
                try clear q6
                obtain ⟨x7_4, x8_4, rfl, rfl, HA, HK4, HO_1, HO_294000, BK293, HB⟩ := hrel
                cases gk with
                | zero => exact absurd HA.out (by simp [offertorylaw29_LedgerSums.l0])
                | succ k4 =>
                  have H := HA.out
                  clear HA
                  simp only [offertorylaw29_LedgerSums.l0] at H
                  by_cases c17 : x8_4 < (x1_2.length : Int)
                  · rw [if_pos c17] at H
                    have c17b0 : decide (x8_4 < (x1_2.length : Int)) = true := decide_eq_true c17
                    clear c17
                    by_cases c18 : 0 ≤ x8_4
                    · rw [if_pos c18] at H
                      have c18b0 : decide (0 ≤ x8_4) = true := decide_eq_true c18
                      clear c18
                      by_cases c19 : (((rd_T27 x1_2 x8_4).f0).length : Int) = a0
                      · rw [if_pos c19] at H
                        have c19b0 : ((((rd_T27 x1_2 x8_4).f0).length : Int) == a0) = true := beq_iff_eq.mpr c19
                        have c19b1 : ((((rd_T27 x1_2 x8_4).f0).length : Int) != a0) = false := bne_eq_false_iff_eq.mpr c19
                        clear c19
                        have H' := Aside0.mk H
                        clear H
                        have p294 : 0 ≤ (x8_4 : Int) := of_decide_eq_true (by first | (with_reducible assumption) | assumption)
                        have q294 : x8_4 < (x1_2.length : Int) := of_decide_eq_true (by first | (with_reducible assumption) | assumption)
                        obtain ⟨ad294, A294_0, c294_0, e294, hx294_0, hx294_1, hx294_2, hx294_3, hx294_4, hx294_5, hx294_6, hl294_0, hi294_0⟩ := at_T27 (Kd.V_reads' HO_1.out).2.2 x8_4 p294 q294
                        cases e294
                        obtain ⟨ce294, hce294, hMe294, hcc294⟩ := Kd.V_get HO_1.out z27 x8_4 p294 (by first | exact q294 | exact of_decide_eq_true (by first | (with_reducible assumption) | assumption) | (have e_ := (Kd.V_reads' HO_1.out).1; omega))
                        obtain ⟨ua294_0, uc294_0, rfl, ul294_0, ge294_0⟩ := k27_openF hMe294
                        have hv294_0 := hcc294 0 _ rfl
                        rw [Nat.add_zero] at hv294_0
                        replace hv294_0 := Option.some.inj (hv294_0.symm.trans hx294_0)
                        injection hv294_0 with hva_ hvn_ hvc_
                        rw [hva_] at ge294_0
                        rw [hvc_] at ul294_0
                        have HL294_0 := Aside0.mk (show Kd.V (Kd.int .i64) 3 _ w.heap.size _ _ ((rd_T27 x1_2 x8_4).f0) from Kd.V_mk ul294_0 ge294_0)
                        clear hva_ hvn_ hvc_ ge294_0 ul294_0
                        clear hcc294 hce294
                        have HR294_0 := Aside0.mk hi294_0
                        have HC294_0 := Aside0.mk hl294_0
                        clear hi294_0 hl294_0
                        replace p294 := eq_true p294
                        replace q294 := eq_true q294
                        go_wp2
                        go_roundg k4
                        case measure => have := HJ2.out; have := HJ7.out; have := HJ14.out; have := HK4.out; omega
                        case rel => exact ⟨(x7_4), (wrap64 (x8_4 + 1)), (by first | rfl | (simp; done) | (simp [*]; done)), (by first | rfl | (simp; done) | (simp [*]; done)), H', ⟨by have := HJ2.out; have := HJ7.out; have := HJ14.out; have := HK4.out; omega⟩, ⟨by (with_reducible repeat (first | apply Kd.V_alloc | apply Kd.V_drewN | apply Kd.V_drew)); exact HO_1.out⟩, ⟨by (with_reducible repeat (first | apply Kd.R_alloc | apply Kd.R_drewN | apply Kd.R_drew)); exact HO_294000.out⟩, ⟨by (with_reducible repeat (first | refine blk_drewN ?_ _ | refine blk_drew ?_ | refine blk_alloc ?_ _)); exact BK293.out⟩, ⟨by repeat (first | (with_reducible first | exact HB.out | apply below_alloc | apply pw_below_drewN | apply below_drew1 | refine below_set ?_ GE293.out) | exact HB.out)⟩⟩
                      · rw [if_neg c19] at H
                        have c19b0 : ((((rd_T27 x1_2 x8_4).f0).length : Int) == a0) = false := beq_eq_false_iff_ne.mpr c19
                        have c19b1 : ((((rd_T27 x1_2 x8_4).f0).length : Int) != a0) = true := bne_iff_ne.mpr c19
                        have H' := Aside0.mk H
                        clear H
                        have p294 : 0 ≤ (x8_4 : Int) := of_decide_eq_true (by first | (with_reducible assumption) | assumption)
                        have q294 : x8_4 < (x1_2.length : Int) := of_decide_eq_true (by first | (with_reducible assumption) | assumption)
                        obtain ⟨ad294, A294_0, c294_0, e294, hx294_0, hx294_1, hx294_2, hx294_3, hx294_4, hx294_5, hx294_6, hl294_0, hi294_0⟩ := at_T27 (Kd.V_reads' HO_1.out).2.2 x8_4 p294 q294
                        cases e294
                        obtain ⟨ce294, hce294, hMe294, hcc294⟩ := Kd.V_get HO_1.out z27 x8_4 p294 (by first | exact q294 | exact of_decide_eq_true (by first | (with_reducible assumption) | assumption) | (have e_ := (Kd.V_reads' HO_1.out).1; omega))
                        obtain ⟨ua294_0, uc294_0, rfl, ul294_0, ge294_0⟩ := k27_openF hMe294
                        have hv294_0 := hcc294 0 _ rfl
                        rw [Nat.add_zero] at hv294_0
                        replace hv294_0 := Option.some.inj (hv294_0.symm.trans hx294_0)
                        injection hv294_0 with hva_ hvn_ hvc_
                        rw [hva_] at ge294_0
                        rw [hvc_] at ul294_0
                        have HL294_0 := Aside0.mk (show Kd.V (Kd.int .i64) 3 _ w.heap.size _ _ ((rd_T27 x1_2 x8_4).f0) from Kd.V_mk ul294_0 ge294_0)
                        clear hva_ hvn_ hvc_ ge294_0 ul294_0
                        clear hcc294 hce294
                        have HR294_0 := Aside0.mk hi294_0
                        have HC294_0 := Aside0.mk hl294_0
                        clear hi294_0 hl294_0
                        replace p294 := eq_true p294
                        replace q294 := eq_true q294
                        go_wp2
                        go_roundg k4
                        case measure => have := HJ2.out; have := HJ7.out; have := HJ14.out; have := HK4.out; omega
                        case rel => exact ⟨(1), (wrap64 (x8_4 + 1)), (by first | rfl | (simp; done) | (simp [*]; done)), (by first | rfl | (simp; done) | (simp [*]; done)), H', ⟨by have := HJ2.out; have := HJ7.out; have := HJ14.out; have := HK4.out; omega⟩, ⟨by (with_reducible repeat (first | apply Kd.V_alloc | apply Kd.V_drewN | apply Kd.V_drew)); exact HO_1.out⟩, ⟨by (with_reducible repeat (first | apply Kd.R_alloc | apply Kd.R_drewN | apply Kd.R_drew)); exact HO_294000.out⟩, ⟨by (with_reducible repeat (first | refine blk_drewN ?_ _ | refine blk_drew ?_ | refine blk_alloc ?_ _)); exact BK293.out⟩, ⟨by repeat (first | (with_reducible first | exact HB.out | apply below_alloc | apply pw_below_drewN | apply below_drew1 | refine below_set ?_ GE293.out) | exact HB.out)⟩⟩
                    · rw [if_neg c18] at H
                      exact absurd H (by simp)
                  · rw [if_neg c17] at H
                    have c17b0 : decide (x8_4 < (x1_2.length : Int)) = false := decide_eq_false c17
                    clear c17
                    have HC20 := Aside0.mk H
                    clear H
                    go_upto_if 44 with (first | ((with_reducible refine gate_dst (N := 9) rfl ?_); refine box_event ?hg (N := 9) ?hd (cs := #[.slice none 0 0, .int .i64 0, .int .u64 0, .int .u64 0, .int .u64 0, .int .u64 0, .bool false]) (t := 27) ?hr ?_; (case hd => rfl); (case hg => rfl); (case hr => first | (go_simp; done) | (go_simp; rfl)); intro gb295 hg w21 hbox hb; have n0_ := Aside0.mk (Kd.V_below (Kd.V_elderB (by (with_reducible repeat (first | apply Kd.V_alloc | apply Kd.V_drewN | apply Kd.V_drew)); exact HO_1.out) gb295 (Nat.le_of_eq hg.symm)) hb); have n1_ := Aside0.mk (Kd.R_below (by (with_reducible repeat (first | apply Kd.R_alloc | apply Kd.R_drewN | apply Kd.R_drew)); exact HO_294000.out) hb); have n2_ := offertorylaw29_LedgerSums.keepB BK293 hb; have n3_ := Aside0.mk (below_step (by repeat (first | (with_reducible first | exact HB.out | apply below_alloc | apply pw_below_drewN | apply below_drew1 | refine below_set ?_ GE293.out) | exact HB.out)) hb); have n4_ := Aside0.mk (hbox); have n5_ := Aside0.mk ((by rw [hg]; exact (below_size (by repeat (first | (with_reducible first | exact HB.out | apply below_alloc | apply pw_below_drewN | apply below_drew1 | refine below_set ?_ GE293.out) | exact HB.out))) : w.heap.size ≤ gb295)); have n6_ := Aside0.mk ((by rw [hg]; exact (below_size (by repeat (first | (with_reducible first | exact HB.out | apply below_alloc | apply pw_below_drewN | apply below_drew1 | refine below_set ?_ GE293.out) | exact HB.out))) : w.heap.size ≤ gb295)); have n7_ := offertorylaw29_LedgerSums.neL BK293 hg; have n8_ := offertorylaw29_LedgerSums.neG BK293 hg; clear HO_1; clear HO_294000; clear BK293; clear HB; have HO_1 := n0_; have HO_294000 := n1_; have BK293 := n2_; have HB := n3_; have BK295 := n4_; have GW295 := n5_; have GE295 := n6_; have NB293_295 := n7_; have NB295_293 := n8_; clear n0_ n1_ n2_ n3_ n4_ n5_ n6_ n7_ n8_; clear hb hbox hg; have hnb22 := NB295_293.out; have hnc22 := NB293_295.out; have hcz23_0 : w21.cell? ⟨gb295, 0, none⟩ = some (.slice none 0 0) := (blk_cell BK295.out 0).trans rfl; have hcz23_1 : w21.cell? ⟨gb295, 1, none⟩ = some (.int .i64 0) := (blk_cell BK295.out 1).trans rfl; have hcz23_2 : w21.cell? ⟨gb295, 2, none⟩ = some (.int .u64 0) := (blk_cell BK295.out 2).trans rfl; have hcz23_3 : w21.cell? ⟨gb295, 3, none⟩ = some (.int .u64 0) := (blk_cell BK295.out 3).trans rfl; have hcz23_4 : w21.cell? ⟨gb295, 4, none⟩ = some (.int .u64 0) := (blk_cell BK295.out 4).trans rfl; have hcz23_5 : w21.cell? ⟨gb295, 5, none⟩ = some (.int .u64 0) := (blk_cell BK295.out 5).trans rfl; have hcz23_6 : w21.cell? ⟨gb295, 6, none⟩ = some (.bool false) := (blk_cell BK295.out 6).trans rfl; have hfz23_0 := blk_frozen BK295.out 0; have hfz23_1 := blk_frozen BK295.out 1; have hfz23_2 := blk_frozen BK295.out 2; have hfz23_3 := blk_frozen BK295.out 3; have hfz23_4 := blk_frozen BK295.out 4; have hfz23_5 := blk_frozen BK295.out 5; have hfz23_6 := blk_frozen BK295.out 6))
                    (try simp only [Act.put, List.setIfInBounds_toArray, List.set_cons_zero, List.set_cons_succ])
                    go_cut [] (fun wc => ∃ (kq : Nat) (x296000_19 : List Int) (u296000 : Value), Aside0 (offertorylaw29_LedgerSums.j4 kq x1_2 t292 x7_4 t283 t286 t287 t288 t289 t290 t291 x296000_19 0 0 0 0 0 false = some r) ∧ Aside0 (kq ≤ k4) ∧ Aside0 (Kd.V k27 27 wc w.heap.size (fun k_ => (P1_ k_ ∨ w.heap.size ≤ k_) ∧ some k_ ≠ ((.slice Ao12 t283.length co12) : Value).ownBlock ∧ some k_ ≠ (u296000 : Value).ownBlock ∧ k_ ≠ gb293 ∧ k_ ≠ gb295) (.slice Ao9 x1_2.length co9) x1_2) ∧ Aside0 (Kd.R (Kd.int .i64) 3 wc w.heap.size (fun k_ => (w.heap.size ≤ k_) ∧ some k_ ≠ (u296000 : Value).ownBlock) (.slice Ao12 t283.length co12) t283) ∧ Aside0 (Kd.R (Kd.int .i64) 3 wc w.heap.size (fun k_ => (w.heap.size ≤ k_) ∧ some k_ ≠ ((.slice Ao12 t283.length co12) : Value).ownBlock) u296000 x296000_19) ∧ Aside0 (wc.heap[gb293]? = some (.cells #[(.slice Ao12 t283.length co12), .int .i64 t286, .int .u64 t287, .int .u64 t288, .int .u64 t289, .int .u64 t290, .bool t291] 27 (0, 0))) ∧ Aside0 (wc.heap[gb295]? = some (.cells #[u296000, .int .i64 0, .int .u64 0, .int .u64 0, .int .u64 0, .int .u64 0, .bool false] 27 (0, 0))) ∧ Aside0 (Below w.heap.size w wc))
                    case first =>
                      have H := HC20.out
                      clear HC20
                      by_cases c24 : x7_4 = 0
                      · rw [if_pos c24] at H
                        have c24b0 : (x7_4 == 0) = true := beq_iff_eq.mpr c24
                        have c24b1 : (x7_4 != 0) = false := bne_eq_false_iff_eq.mpr c24
                        clear c24
                        (first | rw [c24b0] | (simp only [i64_w, i32_w]; rw [c24b0]) | skip)
                        by_cases c25 : 0 ≤ a0
                        · rw [if_pos c25] at H
                          have c25b0 := eq_true c25
                          have c25b1 : decide (0 ≤ a0) = true := decide_eq_true c25
                          clear c25
                          by_cases c26 : (a0 : Int).toNat ≤ 35184372088832
                          · rw [if_pos c26] at H
                            have c26b0 := eq_true c26
                            have c26b1 : decide ((a0 : Int).toNat ≤ 35184372088832) = true := decide_eq_true c26
                            clear c26
                            obtain ⟨y296, hy296⟩ : ∃ y_ : List Int, y_ = (List.replicate (a0 : Int).toNat 0) := ⟨_, rfl⟩
                            replace H : (offertorylaw29_LedgerSums.j4 k4 x1_2 t292 x7_4 t283 t286 t287 t288 t289 t290 t291 y296 0 0 0 0 0 false) = some r := by first | (rw [hy296]; with_reducible exact H) | (have H2_ := (Option.bind_some _ _).symm.trans H; rw [hy296]; with_reducible exact H2_) | (have H2_ := (Option.bind_some _ _).symm.trans H; with_reducible exact H2_) | with_reducible exact H | (rw [hy296]; exact H) | exact H
                            have Ny296 := Aside0.mk hy296
                            clear hy296
                            have H' := Aside0.mk H
                            clear H
                            go_wp2_with (first | ((with_reducible refine gate_dst (N := 46) rfl ?_); refine Kd.R_make (Kd.int .i64) _ 3 rfl (N := 46) rfl 22 _ _ rfl a0 rfl rfl Try.underlying22 (.int .i64 0) 8 info3 rfl (by decide) (by omega) 0 (ok := fun _ => True) (okp := fun _ => True) rfl (fun _ hk => hk) trivial (of_decide_eq_true (by first | (with_reducible assumption) | assumption)) (Nat.le_trans (Nat.mul_le_mul_right _ (of_decide_eq_true (by first | (with_reducible assumption) | assumption) : a0.toNat ≤ 35184372088832)) (by omega)) (Below.refl _ _) (Nat.le_refl _) ?_; intro v297 w27 ho28 hb hg_ hnew_; clear hg_ hnew_; (first | rw [← Ny296.out] at ho28 | (simp only [Int.reduceToNat] at ho28; rw [← Ny296.out] at ho28)); have n0_ := Aside0.mk (Kd.V_elder' (by (with_reducible repeat (first | apply Kd.V_alloc | apply Kd.V_drewN | apply Kd.V_drew)); exact (Kd.V_mono (Kd.V_far (p := ⟨gb295, 6, none⟩) (Kd.V_far (p := ⟨gb295, 5, none⟩) (Kd.V_far (p := ⟨gb295, 4, none⟩) (Kd.V_far (p := ⟨gb295, 3, none⟩) (Kd.V_far (p := ⟨gb295, 2, none⟩) (Kd.V_far (p := ⟨gb295, 1, none⟩) (Kd.V_far (p := ⟨gb295, 0, none⟩) (Kd.V_mono HO_1.out (fun k_ hk => (⟨hk, hk.2⟩ : _ ∧ k_ ≠ gb295))) (fun _ hk => hk.2) (.slice none 0 0)) (fun _ hk => hk.2) (.int .i64 0)) (fun _ hk => hk.2) (.int .u64 0)) (fun _ hk => hk.2) (.int .u64 0)) (fun _ hk => hk.2) (.int .u64 0)) (fun _ hk => hk.2) (.int .u64 0)) (fun _ hk => hk.2) (.bool false)) (fun _ h_ => h_.1))) (Kd.R_base ho28) hb); have n1_ := Aside0.mk (Kd.R_elder' (by (with_reducible repeat (first | apply Kd.R_alloc | apply Kd.R_drewN | apply Kd.R_drew)); exact (Kd.R_mono (Kd.R_far (p := ⟨gb295, 6, none⟩) (Kd.R_far (p := ⟨gb295, 5, none⟩) (Kd.R_far (p := ⟨gb295, 4, none⟩) (Kd.R_far (p := ⟨gb295, 3, none⟩) (Kd.R_far (p := ⟨gb295, 2, none⟩) (Kd.R_far (p := ⟨gb295, 1, none⟩) (Kd.R_far (p := ⟨gb295, 0, none⟩) (Kd.R_types HO_294000.out BK295.out (by decide)) (fun _ hk => hk.2) (.slice none 0 0)) (fun _ hk => hk.2) (.int .i64 0)) (fun _ hk => hk.2) (.int .u64 0)) (fun _ hk => hk.2) (.int .u64 0)) (fun _ hk => hk.2) (.int .u64 0)) (fun _ hk => hk.2) (.int .u64 0)) (fun _ hk => hk.2) (.bool false)) (fun _ h_ => h_.1))) (Kd.R_base ho28) hb); have n2_ := Aside0.mk (Kd.R_lower (Kd.R_new' (Kd.R_newM (M := fun k_ => (w.heap.size ≤ k_)) ho28 (below_size (by repeat (first | (with_reducible first | exact HB.out | apply below_alloc | apply pw_below_drewN | apply below_drew1 | refine below_set ?_ GE293.out | refine below_set ?_ GE295.out) | exact HB.out))) (fun k_ h_ => h_)) (Kd.R_lt (by (with_reducible repeat (first | apply Kd.R_alloc | apply Kd.R_drewN | apply Kd.R_drew)); exact (Kd.R_mono (Kd.R_far (p := ⟨gb295, 6, none⟩) (Kd.R_far (p := ⟨gb295, 5, none⟩) (Kd.R_far (p := ⟨gb295, 4, none⟩) (Kd.R_far (p := ⟨gb295, 3, none⟩) (Kd.R_far (p := ⟨gb295, 2, none⟩) (Kd.R_far (p := ⟨gb295, 1, none⟩) (Kd.R_far (p := ⟨gb295, 0, none⟩) (Kd.R_types HO_294000.out BK295.out (by decide)) (fun _ hk => hk.2) (.slice none 0 0)) (fun _ hk => hk.2) (.int .i64 0)) (fun _ hk => hk.2) (.int .u64 0)) (fun _ hk => hk.2) (.int .u64 0)) (fun _ hk => hk.2) (.int .u64 0)) (fun _ hk => hk.2) (.int .u64 0)) (fun _ hk => hk.2) (.bool false)) (fun _ h_ => h_.1))))) (below_size (by repeat (first | (with_reducible first | exact HB.out | apply below_alloc | apply pw_below_drewN | apply below_drew1 | refine below_set ?_ GE293.out | refine below_set ?_ GE295.out) | exact HB.out)))); have n3_ := Aside0.mk (blk_below (g := gb293) (o := .cells #[.slice Ao12 t283.length co12, .int .i64 t286, .int .u64 t287, .int .u64 t288, .int .u64 t289, .int .u64 t290, .bool t291] 27 (0, 0)) (by (repeat (first | (with_reducible first | refine blk_drewN ?_ _ | refine blk_drew ?_ | refine blk_alloc ?_ _) | refine blk_far ?_ NB293_295.out _)); (with_reducible repeat (first | refine blk_drewN ?_ _ | refine blk_drew ?_ | refine blk_alloc ?_ _)); exact BK293.out) hb); have n4_ := Aside0.mk (blk_below (g := gb295) (o := .cells #[.slice none 0 0, .int .i64 0, .int .u64 0, .int .u64 0, .int .u64 0, .int .u64 0, .bool false] 27 (0, 0)) (by (with_reducible repeat (first | refine blk_drewN ?_ _ | refine blk_drew ?_ | refine blk_alloc ?_ _)); refine blk_put (cs := #[.slice none 0 0, .int .i64 0, .int .u64 0, .int .u64 0, .int .u64 0, .int .u64 0, .bool false]) ?_ 6 _ rfl; (with_reducible repeat (first | refine blk_drewN ?_ _ | refine blk_drew ?_ | refine blk_alloc ?_ _)); refine blk_put (cs := #[.slice none 0 0, .int .i64 0, .int .u64 0, .int .u64 0, .int .u64 0, .int .u64 0, .bool false]) ?_ 5 _ rfl; (with_reducible repeat (first | refine blk_drewN ?_ _ | refine blk_drew ?_ | refine blk_alloc ?_ _)); refine blk_put (cs := #[.slice none 0 0, .int .i64 0, .int .u64 0, .int .u64 0, .int .u64 0, .int .u64 0, .bool false]) ?_ 4 _ rfl; (with_reducible repeat (first | refine blk_drewN ?_ _ | refine blk_drew ?_ | refine blk_alloc ?_ _)); refine blk_put (cs := #[.slice none 0 0, .int .i64 0, .int .u64 0, .int .u64 0, .int .u64 0, .int .u64 0, .bool false]) ?_ 3 _ rfl; (with_reducible repeat (first | refine blk_drewN ?_ _ | refine blk_drew ?_ | refine blk_alloc ?_ _)); refine blk_put (cs := #[.slice none 0 0, .int .i64 0, .int .u64 0, .int .u64 0, .int .u64 0, .int .u64 0, .bool false]) ?_ 2 _ rfl; (with_reducible repeat (first | refine blk_drewN ?_ _ | refine blk_drew ?_ | refine blk_alloc ?_ _)); refine blk_put (cs := #[.slice none 0 0, .int .i64 0, .int .u64 0, .int .u64 0, .int .u64 0, .int .u64 0, .bool false]) ?_ 1 _ rfl; (with_reducible repeat (first | refine blk_drewN ?_ _ | refine blk_drew ?_ | refine blk_alloc ?_ _)); refine blk_put (cs := #[.slice none 0 0, .int .i64 0, .int .u64 0, .int .u64 0, .int .u64 0, .int .u64 0, .bool false]) ?_ 0 _ rfl; (with_reducible repeat (first | refine blk_drewN ?_ _ | refine blk_drew ?_ | refine blk_alloc ?_ _)); exact BK295.out) hb); have n5_ := Aside0.mk (below_step (by repeat (first | (with_reducible first | exact HB.out | apply below_alloc | apply pw_below_drewN | apply below_drew1 | refine below_set ?_ GE293.out | refine below_set ?_ GE295.out) | exact HB.out)) hb); clear HO_1; clear HO_294000; clear BK293; clear BK295; clear HB; have HO_1 := n0_; have HO_294000 := n1_; have HO298 := n2_; have BK293 := n3_; have BK295 := n4_; have HB := n5_; clear n0_ n1_ n2_ n3_ n4_ n5_; clear hb ho28; obtain ⟨Ao29, co29, eo29⟩ := Kd.R_slice HO298.out; subst eo29; have hnb30 := NB295_293.out; have hnc30 := NB293_295.out; have hcz31_0 : w27.cell? ⟨gb295, 0, none⟩ = some (.slice none 0 0) := (blk_cell BK295.out 0).trans rfl; have hcz31_1 : w27.cell? ⟨gb295, 1, none⟩ = some (.int .i64 0) := (blk_cell BK295.out 1).trans rfl; have hcz31_2 : w27.cell? ⟨gb295, 2, none⟩ = some (.int .u64 0) := (blk_cell BK295.out 2).trans rfl; have hcz31_3 : w27.cell? ⟨gb295, 3, none⟩ = some (.int .u64 0) := (blk_cell BK295.out 3).trans rfl; have hcz31_4 : w27.cell? ⟨gb295, 4, none⟩ = some (.int .u64 0) := (blk_cell BK295.out 4).trans rfl; have hcz31_5 : w27.cell? ⟨gb295, 5, none⟩ = some (.int .u64 0) := (blk_cell BK295.out 5).trans rfl; have hcz31_6 : w27.cell? ⟨gb295, 6, none⟩ = some (.bool false) := (blk_cell BK295.out 6).trans rfl; have hfz31_0 := blk_frozen BK295.out 0; have hfz31_1 := blk_frozen BK295.out 1; have hfz31_2 := blk_frozen BK295.out 2; have hfz31_3 := blk_frozen BK295.out 3; have hfz31_4 := blk_frozen BK295.out 4; have hfz31_5 := blk_frozen BK295.out 5; have hfz31_6 := blk_frozen BK295.out 6))
                            go_meet
                            case rel => exact ⟨_, (y296), (.slice Ao29 y296.length co29), H', ⟨by have := HJ2.out; have := HJ7.out; have := HJ14.out; have := HK4.out; first | omega | exact Nat.le_refl _⟩, ⟨by (with_reducible repeat (first | apply Kd.V_alloc | apply Kd.V_drewN | apply Kd.V_drew)); exact Kd.V_mono (Kd.V_far (p := ⟨gb295, 0, none⟩) (Kd.V_mono HO_1.out (fun k_ hk => (⟨hk, hk.1.2⟩ : _ ∧ k_ ≠ gb295))) (fun _ hk => hk.2) (.slice Ao29 y296.length co29)) (fun _ hk => ⟨hk.1.1.1.1, ⟨hk.1.1.1.2.1, ⟨hk.1.2, ⟨hk.1.1.1.2.2, hk.1.1.2⟩⟩⟩⟩)⟩, ⟨by (with_reducible repeat (first | apply Kd.R_alloc | apply Kd.R_drewN | apply Kd.R_drew)); exact Kd.R_mono (Kd.R_far (p := ⟨gb295, 0, none⟩) (Kd.R_types HO_294000.out BK295.out (by decide)) (fun _ hk => hk.2) (.slice Ao29 y296.length co29)) (fun _ hk => ⟨hk.1.1, hk.1.2⟩)⟩, ⟨by (with_reducible repeat (first | apply Kd.R_alloc | apply Kd.R_drewN | apply Kd.R_drew)); exact Kd.R_mono (Kd.R_far (p := ⟨gb295, 0, none⟩) (Kd.R_types HO298.out BK295.out (by decide)) (fun _ hk => hk.2) (.slice Ao29 y296.length co29)) (fun _ hk => ⟨hk.1.1.1, hk.1.2⟩)⟩, ⟨by (with_reducible repeat (first | refine blk_drewN ?_ _ | refine blk_drew ?_ | refine blk_alloc ?_ _)); refine blk_far ?_ NB293_295.out _; (with_reducible repeat (first | refine blk_drewN ?_ _ | refine blk_drew ?_ | refine blk_alloc ?_ _)); exact BK293.out⟩, ⟨by (with_reducible repeat (first | refine blk_drewN ?_ _ | refine blk_drew ?_ | refine blk_alloc ?_ _)); refine blk_put (cs := #[.slice none 0 0, .int .i64 0, .int .u64 0, .int .u64 0, .int .u64 0, .int .u64 0, .bool false]) ?_ 0 _ rfl; (with_reducible repeat (first | refine blk_drewN ?_ _ | refine blk_drew ?_ | refine blk_alloc ?_ _)); exact BK295.out⟩, ⟨by repeat (first | (with_reducible first | exact HB.out | apply below_alloc | apply pw_below_drewN | apply below_drew1 | refine below_set ?_ GE293.out | refine below_set ?_ GE295.out) | exact HB.out)⟩⟩
                          · rw [if_neg c26] at H
                            exact absurd H (by simp)
                        · rw [if_neg c25] at H
                          exact absurd H (by simp)
                      · rw [if_neg c24] at H
                        have c24b0 : (x7_4 == 0) = false := beq_eq_false_iff_ne.mpr c24
                        have c24b1 : (x7_4 != 0) = true := bne_iff_ne.mpr c24
                        (first | rw [c24b0] | (simp only [i64_w, i32_w]; rw [c24b0]) | skip)
                        have H' := Aside0.mk H
                        clear H
                        go_wp2
                        go_meet
                        case rel => exact ⟨_, (([] : List Int)), (.slice none 0 0), H', ⟨by have := HJ2.out; have := HJ7.out; have := HJ14.out; have := HK4.out; first | omega | exact Nat.le_refl _⟩, ⟨by (with_reducible repeat (first | apply Kd.V_alloc | apply Kd.V_drewN | apply Kd.V_drew)); exact Kd.V_mono (Kd.V_far (p := ⟨gb295, 6, none⟩) (Kd.V_far (p := ⟨gb295, 5, none⟩) (Kd.V_far (p := ⟨gb295, 4, none⟩) (Kd.V_far (p := ⟨gb295, 3, none⟩) (Kd.V_far (p := ⟨gb295, 2, none⟩) (Kd.V_far (p := ⟨gb295, 1, none⟩) (Kd.V_far (p := ⟨gb295, 0, none⟩) (Kd.V_mono HO_1.out (fun k_ hk => (⟨hk, hk.2⟩ : _ ∧ k_ ≠ gb295))) (fun _ hk => hk.2) (.slice none 0 0)) (fun _ hk => hk.2) (.int .i64 0)) (fun _ hk => hk.2) (.int .u64 0)) (fun _ hk => hk.2) (.int .u64 0)) (fun _ hk => hk.2) (.int .u64 0)) (fun _ hk => hk.2) (.int .u64 0)) (fun _ hk => hk.2) (.bool false)) (fun _ hk => ⟨hk.1.1.1, ⟨hk.1.1.2.1, ⟨(by simp [Value.ownBlock]), ⟨hk.1.1.2.2, hk.1.2⟩⟩⟩⟩)⟩, ⟨by (with_reducible repeat (first | apply Kd.R_alloc | apply Kd.R_drewN | apply Kd.R_drew)); exact Kd.R_mono (Kd.R_far (p := ⟨gb295, 6, none⟩) (Kd.R_far (p := ⟨gb295, 5, none⟩) (Kd.R_far (p := ⟨gb295, 4, none⟩) (Kd.R_far (p := ⟨gb295, 3, none⟩) (Kd.R_far (p := ⟨gb295, 2, none⟩) (Kd.R_far (p := ⟨gb295, 1, none⟩) (Kd.R_far (p := ⟨gb295, 0, none⟩) (Kd.R_types HO_294000.out BK295.out (by decide)) (fun _ hk => hk.2) (.slice none 0 0)) (fun _ hk => hk.2) (.int .i64 0)) (fun _ hk => hk.2) (.int .u64 0)) (fun _ hk => hk.2) (.int .u64 0)) (fun _ hk => hk.2) (.int .u64 0)) (fun _ hk => hk.2) (.int .u64 0)) (fun _ hk => hk.2) (.bool false)) (fun _ hk => ⟨hk.1, (by simp [Value.ownBlock])⟩)⟩, ⟨by first | exact Kd.R_nil _ _ _ _ _ | exact Kd.N_nil _ _ _ _ _ | exact Kd.V_nil _ _ _ _ _ | exact Kd.Q_nil _ _ _ _ _ | exact Kd.S_nil _ _ _ _ _⟩, ⟨by (repeat (first | (with_reducible first | refine blk_drewN ?_ _ | refine blk_drew ?_ | refine blk_alloc ?_ _) | refine blk_far ?_ NB293_295.out _)); (with_reducible repeat (first | refine blk_drewN ?_ _ | refine blk_drew ?_ | refine blk_alloc ?_ _)); exact BK293.out⟩, ⟨by (with_reducible repeat (first | refine blk_drewN ?_ _ | refine blk_drew ?_ | refine blk_alloc ?_ _)); refine blk_put (cs := #[.slice none 0 0, .int .i64 0, .int .u64 0, .int .u64 0, .int .u64 0, .int .u64 0, .bool false]) ?_ 6 _ rfl; (with_reducible repeat (first | refine blk_drewN ?_ _ | refine blk_drew ?_ | refine blk_alloc ?_ _)); refine blk_put (cs := #[.slice none 0 0, .int .i64 0, .int .u64 0, .int .u64 0, .int .u64 0, .int .u64 0, .bool false]) ?_ 5 _ rfl; (with_reducible repeat (first | refine blk_drewN ?_ _ | refine blk_drew ?_ | refine blk_alloc ?_ _)); refine blk_put (cs := #[.slice none 0 0, .int .i64 0, .int .u64 0, .int .u64 0, .int .u64 0, .int .u64 0, .bool false]) ?_ 4 _ rfl; (with_reducible repeat (first | refine blk_drewN ?_ _ | refine blk_drew ?_ | refine blk_alloc ?_ _)); refine blk_put (cs := #[.slice none 0 0, .int .i64 0, .int .u64 0, .int .u64 0, .int .u64 0, .int .u64 0, .bool false]) ?_ 3 _ rfl; (with_reducible repeat (first | refine blk_drewN ?_ _ | refine blk_drew ?_ | refine blk_alloc ?_ _)); refine blk_put (cs := #[.slice none 0 0, .int .i64 0, .int .u64 0, .int .u64 0, .int .u64 0, .int .u64 0, .bool false]) ?_ 2 _ rfl; (with_reducible repeat (first | refine blk_drewN ?_ _ | refine blk_drew ?_ | refine blk_alloc ?_ _)); refine blk_put (cs := #[.slice none 0 0, .int .i64 0, .int .u64 0, .int .u64 0, .int .u64 0, .int .u64 0, .bool false]) ?_ 1 _ rfl; (with_reducible repeat (first | refine blk_drewN ?_ _ | refine blk_drew ?_ | refine blk_alloc ?_ _)); refine blk_put (cs := #[.slice none 0 0, .int .i64 0, .int .u64 0, .int .u64 0, .int .u64 0, .int .u64 0, .bool false]) ?_ 0 _ rfl; (with_reducible repeat (first | refine blk_drewN ?_ _ | refine blk_drew ?_ | refine blk_alloc ?_ _)); exact BK295.out⟩, ⟨by repeat (first | (with_reducible first | exact HB.out | apply below_alloc | apply pw_below_drewN | apply below_drew1 | refine below_set ?_ GE293.out | refine below_set ?_ GE295.out) | exact HB.out)⟩⟩
                    case rest =>
                      clear HC20
                      try clear c1
                      try clear c2
                      try clear p2
                      try clear q2
                      try clear hx2
                      try clear c3
                      try clear c4
                      try clear c4b0
                      try clear c4b1
                      try clear c5
                      try clear c5b0
                      try clear c5b1
                      try clear p6
                      try clear q6
                      try clear c12
                      try clear c14
                      try clear c14b0
                      try clear c16
                      try clear c17
                      try clear c17b0
                      try clear c18
                      try clear c18b0
                      try clear c19
                      try clear c19b0
                      try clear c19b1
                      try clear c22
                      try clear c24
                      try clear c24b0
                      try clear c24b1
                      try clear c25
                      try clear c25b0
                      try clear c25b1
                      try clear c26
                      try clear c26b0
                      try clear c26b1
                      try clear c29
                      try clear p29
                      try clear q29
                      try clear hx29
                      try clear c30
                      try clear hcz13_0
                      try clear hcz13_1
                      try clear hcz13_2
                      try clear hcz13_3
                      try clear hcz13_4
                      try clear hcz13_5
                      try clear hcz13_6
                      try clear hcz23_0
                      try clear hcz23_1
                      try clear hcz23_2
                      try clear hcz23_3
                      try clear hcz23_4
                      try clear hcz23_5
                      try clear hcz23_6
                      try clear hcz31_0
                      try clear hcz31_1
                      try clear hcz31_2
                      try clear hcz31_3
                      try clear hcz31_4
                      try clear hcz31_5
                      try clear hcz31_6
                      try clear hfz13_0
                      try clear hfz13_1
                      try clear hfz13_2
                      try clear hfz13_3
                      try clear hfz13_4
                      try clear hfz13_5
                      try clear hfz13_6
                      try clear hfz23_0
                      try clear hfz23_1
                      try clear hfz23_2
                      try clear hfz23_3
                      try clear hfz23_4
                      try clear hfz23_5
                      try clear hfz23_6
                      try clear hfz31_0
                      try clear hfz31_1
                      try clear hfz31_2
                      try clear hfz31_3
                      try clear hfz31_4
                      try clear hfz31_5
                      try clear hfz31_6
                      try clear hx294_0
                      try clear hx294_1
                      try clear hx294_2
                      try clear hx294_3
                      try clear hx294_4
                      try clear hx294_5
                      try clear hx294_6
                      try clear p2
                      try clear p294
                      try clear q294
                      try clear q6
                      obtain ⟨kq, x296000_19, u296000, HA, HJ19, HO_1, HO_294000, HO_296000, BK293, BK295, HB⟩ := hcut
                      cases kq with
                      | zero => exact absurd HA.out (by simp [offertorylaw29_LedgerSums.j4])
                      | succ kj19 =>
                        have H := HA.out
                        clear HA
                        simp only [offertorylaw29_LedgerSums.j4] at H
                        have HC32 := Aside0.mk H
                        clear H
                        go_upto_block 2 with (fail)
                        go_cut [7] (fun v7 wc => ∃ (kq : Nat) (x7_31 : Int) (x296000_31 : List Int) (x296001_31 : Int) (x296002_31 : Int) (x296003_31 : Int) (x296004_31 : Int) (x296005_31 : Int) (x296006_31 : Bool) (u296000 : Value), v7 = .int .i64 x7_31 ∧ Aside0 (offertorylaw29_LedgerSums.j6 kq t292 x7_31 t283 t286 t287 t288 t289 t290 t291 x296000_31 x296001_31 x296002_31 x296003_31 x296004_31 x296005_31 x296006_31 = some r) ∧ Aside0 (kq ≤ kj19) ∧ Aside0 (Kd.R (Kd.int .i64) 3 wc w.heap.size (fun k_ => (w.heap.size ≤ k_) ∧ some k_ ≠ (u296000 : Value).ownBlock) (.slice Ao12 t283.length co12) t283) ∧ Aside0 (Kd.R (Kd.int .i64) 3 wc w.heap.size (fun k_ => (w.heap.size ≤ k_) ∧ some k_ ≠ ((.slice Ao12 t283.length co12) : Value).ownBlock) u296000 x296000_31) ∧ Aside0 (wc.heap[gb293]? = some (.cells #[(.slice Ao12 t283.length co12), .int .i64 t286, .int .u64 t287, .int .u64 t288, .int .u64 t289, .int .u64 t290, .bool t291] 27 (0, 0))) ∧ Aside0 (wc.heap[gb295]? = some (.cells #[u296000, .int .i64 x296001_31, .int .u64 x296002_31, .int .u64 x296003_31, .int .u64 x296004_31, .int .u64 x296005_31, .bool x296006_31] 27 (0, 0))) ∧ Aside0 (Below w.heap.size w wc))
                        case first =>
                          have H := HC32.out
                          clear HC32
                          have H' := Aside0.mk H
                          clear H
                          go_wp2
                          go_loopg [7, 10] kj19 (fun kq v7 v10 w' => ∃ (x7_6 : Int) (x10_6 : Int) (x296000_6 : List Int) (x296001_6 : Int) (x296002_6 : Int) (x296003_6 : Int) (x296004_6 : Int) (x296005_6 : Int) (x296006_6 : Bool) (u296000 : Value), v7 = .int .i64 x7_6 ∧ v10 = .int .i64 x10_6 ∧ Aside0 (offertorylaw29_LedgerSums.l1 kq x1_2 t292 x7_6 x10_6 t283 t286 t287 t288 t289 t290 t291 x296000_6 x296001_6 x296002_6 x296003_6 x296004_6 x296005_6 x296006_6 = some r) ∧ Aside0 (kq ≤ kj19) ∧ Aside0 (Kd.V k27 27 w' w.heap.size (fun k_ => (P1_ k_ ∨ w.heap.size ≤ k_) ∧ some k_ ≠ ((.slice Ao12 t283.length co12) : Value).ownBlock ∧ some k_ ≠ (u296000 : Value).ownBlock ∧ k_ ≠ gb293 ∧ k_ ≠ gb295) (.slice Ao9 x1_2.length co9) x1_2) ∧ Aside0 (Kd.R (Kd.int .i64) 3 w' w.heap.size (fun k_ => (w.heap.size ≤ k_) ∧ some k_ ≠ (u296000 : Value).ownBlock) (.slice Ao12 t283.length co12) t283) ∧ Aside0 (Kd.R (Kd.int .i64) 3 w' w.heap.size (fun k_ => (w.heap.size ≤ k_) ∧ some k_ ≠ ((.slice Ao12 t283.length co12) : Value).ownBlock) u296000 x296000_6) ∧ Aside0 (w'.heap[gb293]? = some (.cells #[(.slice Ao12 t283.length co12), .int .i64 t286, .int .u64 t287, .int .u64 t288, .int .u64 t289, .int .u64 t290, .bool t291] 27 (0, 0))) ∧ Aside0 (w'.heap[gb295]? = some (.cells #[u296000, .int .i64 x296001_6, .int .u64 x296002_6, .int .u64 x296003_6, .int .u64 x296004_6, .int .u64 x296005_6, .bool x296006_6] 27 (0, 0))) ∧ Aside0 (Below w.heap.size w w'))
                          case atStart => exact ⟨(x7_4), (0), (x296000_19), (0), (0), (0), (0), (0), (false), (u296000), (by first | rfl | (simp; done) | (simp [*]; done)), (by first | rfl | (simp; done) | (simp [*]; done)), H', ⟨Nat.le_refl _⟩, ⟨by (with_reducible repeat (first | apply Kd.V_alloc | apply Kd.V_drewN | apply Kd.V_drew)); exact HO_1.out⟩, ⟨by (with_reducible repeat (first | apply Kd.R_alloc | apply Kd.R_drewN | apply Kd.R_drew)); exact HO_294000.out⟩, ⟨by (with_reducible repeat (first | apply Kd.R_alloc | apply Kd.R_drewN | apply Kd.R_drew)); exact HO_296000.out⟩, ⟨by (with_reducible repeat (first | refine blk_drewN ?_ _ | refine blk_drew ?_ | refine blk_alloc ?_ _)); exact BK293.out⟩, ⟨by (with_reducible repeat (first | refine blk_drewN ?_ _ | refine blk_drew ?_ | refine blk_alloc ?_ _)); exact BK295.out⟩, ⟨by repeat (first | (with_reducible first | exact HB.out | apply below_alloc | apply pw_below_drewN | apply below_drew1 | refine below_set ?_ GE293.out | refine below_set ?_ GE295.out) | exact HB.out)⟩⟩
                          case round =>
                            clear H'
                            try clear c1
                            try clear c2
                            try clear p2
                            try clear q2
                            try clear hx2
                            try clear c3
                            try clear c4
                            try clear c4b0
                            try clear c4b1
                            try clear c5
                            try clear c5b0
                            try clear c5b1
                            try clear p6
                            try clear q6
                            try clear c12
                            try clear c14
                            try clear c14b0
                            try clear c16
                            try clear c17
                            try clear c17b0
                            try clear c18
                            try clear c18b0
                            try clear c19
                            try clear c19b0
                            try clear c19b1
                            try clear c22
                            try clear c24
                            try clear c24b0
                            try clear c24b1
                            try clear c25
                            try clear c25b0
                            try clear c25b1
                            try clear c26
                            try clear c26b0
                            try clear c26b1
                            try clear c29
                            try clear p29
                            try clear q29
                            try clear hx29
                            try clear c30
                            try clear hcz13_0
                            try clear hcz13_1
                            try clear hcz13_2
                            try clear hcz13_3
                            try clear hcz13_4
                            try clear hcz13_5
                            try clear hcz13_6
                            try clear hcz23_0
                            try clear hcz23_1
                            try clear hcz23_2
                            try clear hcz23_3
                            try clear hcz23_4
                            try clear hcz23_5
                            try clear hcz23_6
                            try clear hcz31_0
                            try clear hcz31_1
                            try clear hcz31_2
                            try clear hcz31_3
                            try clear hcz31_4
                            try clear hcz31_5
                            try clear hcz31_6
                            try clear hfz13_0
                            try clear hfz13_1
                            try clear hfz13_2
                            try clear hfz13_3
                            try clear hfz13_4
                            try clear hfz13_5
                            try clear hfz13_6
                            try clear hfz23_0
                            try clear hfz23_1
                            try clear hfz23_2
                            try clear hfz23_3
                            try clear hfz23_4
                            try clear hfz23_5
                            try clear hfz23_6
                            try clear hfz31_0
                            try clear hfz31_1
                            try clear hfz31_2
                            try clear hfz31_3
                            try clear hfz31_4
                            try clear hfz31_5
                            try clear hfz31_6
                            try clear hx294_0
                            try clear hx294_1
                            try clear hx294_2
                            try clear hx294_3
                            try clear hx294_4
                            try clear hx294_5
                            try clear hx294_6
                            try clear p2
                            try clear p29
                            try clear p294
                            try clear p6
                            try clear q2
                            try clear q29
                            try clear q294
                            try clear q6
                            obtain ⟨x7_6, x10_6, x296000_6, x296001_6, x296002_6, x296003_6, x296004_6, x296005_6, x296006_6, u296000, rfl, rfl, HA, HK6, HO_1, HO_294000, HO_296000, BK293, BK295, HB⟩ := hrel
                            cases gk with
                            | zero => exact absurd HA.out (by simp [offertorylaw29_LedgerSums.l1])
                            | succ k6 =>
                              have H := HA.out
                              clear HA
                              simp only [offertorylaw29_LedgerSums.l1] at H
                              by_cases c33 : x10_6 < (x1_2.length : Int)
                              · rw [if_pos c33] at H
                                have c33b0 : decide (x10_6 < (x1_2.length : Int)) = true := decide_eq_true c33
                                clear c33
                                (first | rw [c33b0] | (simp only [i64_w, i32_w]; rw [c33b0]) | skip)
                                by_cases c34 : x7_6 = 0
                                · rw [if_pos c34] at H
                                  have c34b0 : (x7_6 == 0) = true := beq_iff_eq.mpr c34
                                  have c34b1 : (x7_6 != 0) = false := bne_eq_false_iff_eq.mpr c34
                                  clear c34
                                  by_cases c35 : 0 ≤ x10_6
                                  · rw [if_pos c35] at H
                                    have c35b0 : decide (0 ≤ x10_6) = true := decide_eq_true c35
                                    clear c35
                                    replace H := Option.bind_eq_some_iff.mp H
                                    obtain ⟨⟨t300, t303, t304, t305, t306, t307, t308, t309⟩, A360, H⟩ := H
                                    replace H : (offertorylaw29_LedgerSums.l1 k6 x1_2 t292 t309 (wrap64 (x10_6 + 1)) t283 t286 t287 t288 t289 t290 t291 t300 t303 t304 t305 t306 t307 t308) = some r := H
                                    have A36 := Aside0.mk A360
                                    clear A360
                                    have H' := Aside0.mk H
                                    clear H
                                    try go_wp2
                                    have n0_ := Aside0.mk (Kd.V_drew HO_1.out)
                                    have n1_ := Aside0.mk (Kd.R_drew HO_294000.out)
                                    have n2_ := Aside0.mk (Kd.R_drew HO_296000.out)
                                    have n3_ := Aside0.mk (blk_drew BK293.out)
                                    have n4_ := Aside0.mk (blk_drew BK295.out)
                                    have n5_ := Aside0.mk (below_drew1 HB.out)
                                    clear HO_1
                                    clear HO_294000
                                    clear HO_296000
                                    clear BK293
                                    clear BK295
                                    clear HB
                                    have HO_1 := n0_
                                    have HO_294000 := n1_
                                    have HO_296000 := n2_
                                    have BK293 := n3_
                                    have BK295 := n4_
                                    have HB := n5_
                                    clear n0_ n1_ n2_ n3_ n4_ n5_
                                    have p299 : 0 ≤ (x10_6 : Int) := of_decide_eq_true (by first | (with_reducible assumption) | assumption)
                                    have q299 : x10_6 < (x1_2.length : Int) := of_decide_eq_true (by first | (with_reducible assumption) | assumption)
                                    obtain ⟨ad299, A299_0, c299_0, e299, hx299_0, hx299_1, hx299_2, hx299_3, hx299_4, hx299_5, hx299_6, hl299_0, hi299_0⟩ := at_T27 (Kd.V_reads' HO_1.out).2.2 x10_6 p299 q299
                                    cases e299
                                    obtain ⟨ce299, hce299, hMe299, hcc299⟩ := Kd.V_get HO_1.out z27 x10_6 p299 (by first | exact q299 | exact of_decide_eq_true (by first | (with_reducible assumption) | assumption) | (have e_ := (Kd.V_reads' HO_1.out).1; omega))
                                    obtain ⟨ua299_0, uc299_0, rfl, ul299_0, ge299_0⟩ := k27_openF hMe299
                                    have hv299_0 := hcc299 0 _ rfl
                                    rw [Nat.add_zero] at hv299_0
                                    replace hv299_0 := Option.some.inj (hv299_0.symm.trans hx299_0)
                                    injection hv299_0 with hva_ hvn_ hvc_
                                    rw [hva_] at ge299_0
                                    rw [hvc_] at ul299_0
                                    have HL299_0 := Aside0.mk (show Kd.V (Kd.int .i64) 3 _ w.heap.size _ _ ((rd_T27 x1_2 x10_6).f0) from Kd.V_mk ul299_0 ge299_0)
                                    clear hva_ hvn_ hvc_ ge299_0 ul299_0
                                    clear hcc299 hce299
                                    have HR299_0 := Aside0.mk hi299_0
                                    have HC299_0 := Aside0.mk hl299_0
                                    clear hi299_0 hl299_0
                                    replace p299 := eq_true p299
                                    replace q299 := eq_true q299
                                    obtain ⟨Ao38, co38, eo38⟩ := Kd.R_slice HO_296000.out
                                    (first | subst eo38 | (injection eo38 with f1_ f2_ f3_; have f4_ := f1_.symm; have f5_ := f3_.symm; clear f1_ f2_ f3_; subst f4_; subst f5_))
                                    refine start_ (n := 11) (S := fun w' => w'.cell? ⟨gb295, 0, none⟩ = some (.slice Ao38 x296000_6.length co38) ∧ w'.cell? ⟨gb295, 1, none⟩ = some (.int .i64 x296001_6) ∧ w'.cell? ⟨gb295, 2, none⟩ = some (.int .u64 x296002_6) ∧ w'.cell? ⟨gb295, 3, none⟩ = some (.int .u64 x296003_6) ∧ w'.cell? ⟨gb295, 4, none⟩ = some (.int .u64 x296004_6) ∧ w'.cell? ⟨gb295, 5, none⟩ = some (.int .u64 x296005_6) ∧ w'.cell? ⟨gb295, 6, none⟩ = some (.bool x296006_6) ∧ w'.cell? (ad299.add ((x10_6).toNat * 7)) = some (.slice A299_0 ((rd_T27 x1_2 x10_6).f0).length c299_0) ∧ w'.cell? ⟨(ad299.add ((x10_6).toNat * 7)).block, (ad299.add ((x10_6).toNat * 7)).off + 1, none⟩ = some (.int .i64 ((rd_T27 x1_2 x10_6).f1)) ∧ w'.cell? ⟨(ad299.add ((x10_6).toNat * 7)).block, (ad299.add ((x10_6).toNat * 7)).off + 2, none⟩ = some (.int .u64 ((rd_T27 x1_2 x10_6).f2.f0)) ∧ w'.cell? ⟨(ad299.add ((x10_6).toNat * 7)).block, (ad299.add ((x10_6).toNat * 7)).off + 3, none⟩ = some (.int .u64 ((rd_T27 x1_2 x10_6).f2.f1)) ∧ w'.cell? ⟨(ad299.add ((x10_6).toNat * 7)).block, (ad299.add ((x10_6).toNat * 7)).off + 4, none⟩ = some (.int .u64 ((rd_T27 x1_2 x10_6).f3.f0)) ∧ w'.cell? ⟨(ad299.add ((x10_6).toNat * 7)).block, (ad299.add ((x10_6).toNat * 7)).off + 5, none⟩ = some (.int .u64 ((rd_T27 x1_2 x10_6).f3.f1)) ∧ w'.cell? ⟨(ad299.add ((x10_6).toNat * 7)).block, (ad299.add ((x10_6).toNat * 7)).off + 6, none⟩ = some (.bool ((rd_T27 x1_2 x10_6).f4))) (ds := [9]) #[false, false, false, false, false, false, false, false, false, false, false] (by kernel_rfl) rfl rfl ⟨(blk_cell BK295.out 0).trans rfl, (blk_cell BK295.out 1).trans rfl, (blk_cell BK295.out 2).trans rfl, (blk_cell BK295.out 3).trans rfl, (blk_cell BK295.out 4).trans rfl, (blk_cell BK295.out 5).trans rfl, (blk_cell BK295.out 6).trans rfl, hx299_0, hx299_1, hx299_2, hx299_3, hx299_4, hx299_5, hx299_6⟩ (fun hHeld => ?_); refine with_tabW offertorylaw29_LedgerSums.tab18 offertorylaw29_LedgerSums.bits18 (fun HT_ HW_ => ?_)
                                    generalize wr.drew = w37 at HO_1 HO_294000 HO_296000 BK293 BK295 HB HL299_0 HR299_0 hx299_0 hx299_1 hx299_2 hx299_3 hx299_4 hx299_5 hx299_6 hHeld ⊢
                                    refine pure_ (i := 1) (N := some 60) (v := ?_) (a' := ?_) #[false, true, false, false, false, false, false, false, false, false, false] rfl rfl (any_of HT_.out (by kernel_rfl)) (fun _ _ _ h => h) (Or.inl ⟨by rfl, ?_⟩) ?_ ?_
                                    rotate_left
                                    · intro w'
                                      (try simp only [add_plain] at s0 s1 s2 s3 s4 s5 s6 s7 s8 s9 s10 s11 s12 s13)
                                      go_simp
                                      with_reducible rfl
                                    rotate_left
                                    · simp only [Act.put, List.setIfInBounds_toArray, List.set_cons_zero, List.set_cons_succ, i64_w, i32_w]
                                      rfl
                                    refine pure_ (i := 2) (N := some 61) (v := ?_) (a' := ?_) #[false, true, true, false, false, false, false, false, false, false, false] rfl rfl (any_of HT_.out (by kernel_rfl)) (fun _ _ _ h => h) (Or.inl ⟨by rfl, ?_⟩) ?_ ?_
                                    rotate_left
                                    · intro w'
                                      (try simp only [add_plain] at s0 s1 s2 s3 s4 s5 s6 s7 s8 s9 s10 s11 s12 s13)
                                      go_simp
                                      with_reducible rfl
                                    rotate_left
                                    · simp only [Act.put, List.setIfInBounds_toArray, List.set_cons_zero, List.set_cons_succ, i64_w, i32_w]
                                      rfl
                                    refine pure_ (i := 3) (N := some 62) (v := ?_) (a' := ?_) #[false, true, true, true, false, false, false, false, false, false, false] rfl rfl (any_of HT_.out (by kernel_rfl)) (fun _ _ _ h => h) (Or.inl ⟨by rfl, ?_⟩) ?_ ?_
                                    rotate_left
                                    · intro w'
                                      (try simp only [add_plain] at s0 s1 s2 s3 s4 s5 s6 s7 s8 s9 s10 s11 s12 s13)
                                      go_simp
                                      with_reducible rfl
                                    rotate_left
                                    · simp only [Act.put, List.setIfInBounds_toArray, List.set_cons_zero, List.set_cons_succ, i64_w, i32_w]
                                      rfl
                                    refine take_ (i := 0) (N := some 59) (v := ?_) (a' := ?_) #[true, true, true, true, false, false, false, false, false, false, false] rfl rfl (take_ofW HT_.out HW_.out (by kernel_rfl)) (fun _ _ _ h => h) (Or.inl ⟨by rfl, ?_⟩) hHeld ?_ ?_
                                    rotate_left
                                    · rintro w' ⟨s0, s1, s2, s3, s4, s5, s6, s7, s8, s9, s10, s11, s12, s13⟩
                                      (try simp only [add_plain] at s0 s1 s2 s3 s4 s5 s6 s7 s8 s9 s10 s11 s12 s13)
                                      go_simp
                                      with_reducible rfl
                                    rotate_left
                                    · simp only [Act.put, List.setIfInBounds_toArray, List.set_cons_zero, List.set_cons_succ, i64_w, i32_w]
                                      rfl
                                    refine take_ (i := 4) (N := some 63) (v := ?_) (a' := ?_) #[true, true, true, true, true, false, false, false, false, false, false] rfl rfl (take_ofW HT_.out HW_.out (by kernel_rfl)) (fun _ _ _ h => h) (Or.inl ⟨by rfl, ?_⟩) hHeld ?_ ?_
                                    rotate_left
                                    · rintro w' ⟨s0, s1, s2, s3, s4, s5, s6, s7, s8, s9, s10, s11, s12, s13⟩
                                      (try simp only [add_plain] at s0 s1 s2 s3 s4 s5 s6 s7 s8 s9 s10 s11 s12 s13)
                                      go_simp
                                      with_reducible rfl
                                    rotate_left
                                    · simp only [Act.put, List.setIfInBounds_toArray, List.set_cons_zero, List.set_cons_succ, i64_w, i32_w]
                                      rfl
                                    refine one_ (i := 5) (N := some 64) #[true, true, true, true, true, true, false, false, false, false, false] rfl rfl (one_of HT_.out (by kernel_rfl)) (by decide) (fun K hK => ?_)
                                    refine goes_ Try.func8 (by kernel_rfl) rfl #[.agg #[.slice Ao38 x296000_6.length co38, .int .i64 x296001_6, .int .u64 x296002_6, .int .u64 x296003_6, .int .u64 x296004_6, .int .u64 x296005_6, .bool x296006_6], .agg #[.slice A299_0 ((rd_T27 x1_2 x10_6).f0).length c299_0, .int .i64 ((rd_T27 x1_2 x10_6).f1), .int .u64 ((rd_T27 x1_2 x10_6).f2.f0), .int .u64 ((rd_T27 x1_2 x10_6).f2.f1), .int .u64 ((rd_T27 x1_2 x10_6).f3.f0), .int .u64 ((rd_T27 x1_2 x10_6).f3.f1), .bool ((rd_T27 x1_2 x10_6).f4)], .bool false] (by rfl) rfl rfl (by (try simp only [List.map_toArray, List.map_cons, List.map_nil]); first | done | rfl | (simp only [List.length_drop, List.length_take]; rfl)) ?_
                                    with_reducible refine (offertorylaw29_both.calls _ _ x296000_6 x296001_6 x296002_6 x296003_6 x296004_6 x296005_6 x296006_6 _ _ ((rd_T27 x1_2 x10_6).f0) ((rd_T27 x1_2 x10_6).f1) ((rd_T27 x1_2 x10_6).f2.f0) ((rd_T27 x1_2 x10_6).f2.f1) ((rd_T27 x1_2 x10_6).f3.f0) ((rd_T27 x1_2 x10_6).f3.f1) ((rd_T27 x1_2 x10_6).f4) false t300 t303 t304 t305 t306 t307 t308 t309 _ ?side1 ?side2 ?side3 ?side4 A36.out).mono ?_
                                    (case side1 => repeat (first | exact (Kd.R_reads' HO_296000.out).2.2 | (with_reducible refine Kd.C_alloc ?_ _) | (with_reducible refine Kd.C_drewN ?_ _) | (with_reducible refine Kd.C_drew ?_)))
                                    (case side2 => exact (Kd.R_reads' HO_296000.out).2.1)
                                    (case side3 => repeat (first | exact (by repeat (first | (with_reducible exact HR299_0.out) | (with_reducible refine Kd.C_alloc ?_ _) | (with_reducible refine Kd.C_drewN ?_ _) | (with_reducible refine Kd.C_drew ?_) | exact HR299_0.out)) | (with_reducible refine Kd.C_alloc ?_ _) | (with_reducible refine Kd.C_drewN ?_ _) | (with_reducible refine Kd.C_drew ?_)))
                                    (case side4 => exact HC299_0.out)
                                    rintro e w39 ⟨v301, rfl, ho0, hb⟩
                                    have HS7_ := (hb.cell (World.block_lt_of_cell? _ _ (hHeld.2.2.2.2.2.2.2.1))).trans (hHeld.2.2.2.2.2.2.2.1)
                                    have HS8_ := (hb.cell (World.block_lt_of_cell? _ _ (hHeld.2.2.2.2.2.2.2.2.1))).trans (hHeld.2.2.2.2.2.2.2.2.1)
                                    have HS9_ := (hb.cell (World.block_lt_of_cell? _ _ (hHeld.2.2.2.2.2.2.2.2.2.1))).trans (hHeld.2.2.2.2.2.2.2.2.2.1)
                                    have HS10_ := (hb.cell (World.block_lt_of_cell? _ _ (hHeld.2.2.2.2.2.2.2.2.2.2.1))).trans (hHeld.2.2.2.2.2.2.2.2.2.2.1)
                                    have HS11_ := (hb.cell (World.block_lt_of_cell? _ _ (hHeld.2.2.2.2.2.2.2.2.2.2.2.1))).trans (hHeld.2.2.2.2.2.2.2.2.2.2.2.1)
                                    have HS12_ := (hb.cell (World.block_lt_of_cell? _ _ (hHeld.2.2.2.2.2.2.2.2.2.2.2.2.1))).trans (hHeld.2.2.2.2.2.2.2.2.2.2.2.2.1)
                                    have HS13_ := (hb.cell (World.block_lt_of_cell? _ _ (hHeld.2.2.2.2.2.2.2.2.2.2.2.2.2))).trans (hHeld.2.2.2.2.2.2.2.2.2.2.2.2.2)
                                    refine ⟨_, rfl, ?_⟩
                                    have n0_ := Aside0.mk (Kd.V_elder' (by (with_reducible repeat (first | apply Kd.V_alloc | apply Kd.V_drewN | apply Kd.V_drew)); exact HO_1.out) (Kd.R_base ho0) hb)
                                    have n1_ := Aside0.mk (Kd.R_elder' (by (with_reducible repeat (first | apply Kd.R_alloc | apply Kd.R_drewN | apply Kd.R_drew)); exact HO_294000.out) (Kd.R_base ho0) hb)
                                    have n2_ := Aside0.mk (Kd.R_elder' (by (with_reducible repeat (first | apply Kd.R_alloc | apply Kd.R_drewN | apply Kd.R_drew)); exact HO_296000.out) (Kd.R_base ho0) hb)
                                    have n3_ := Aside0.mk (Kd.V_elder' (by (with_reducible repeat (first | apply Kd.V_alloc | apply Kd.V_drewN | apply Kd.V_drew)); exact HL299_0.out) (Kd.R_base ho0) hb)
                                    have n4_ := Aside0.mk (Kd.R_lower (Kd.R_new' (Kd.R_new' (Kd.R_newM (M := fun k_ => (w.heap.size ≤ k_)) ho0 (below_size (by repeat (first | (with_reducible first | exact HB.out | apply below_alloc | apply pw_below_drewN | apply below_drew1 | refine below_set ?_ GE293.out | refine below_set ?_ GE295.out) | exact HB.out))) (fun k_ h_ => h_)) (Kd.R_lt (by (with_reducible repeat (first | apply Kd.R_alloc | apply Kd.R_drewN | apply Kd.R_drew)); exact HO_294000.out))) (Kd.R_lt (by (with_reducible repeat (first | apply Kd.R_alloc | apply Kd.R_drewN | apply Kd.R_drew)); exact HO_296000.out))) (below_size (by repeat (first | (with_reducible first | exact HB.out | apply below_alloc | apply pw_below_drewN | apply below_drew1 | refine below_set ?_ GE293.out | refine below_set ?_ GE295.out) | exact HB.out))))
                                    have n5_ := offertorylaw29_LedgerSums.keepB BK293 hb
                                    have n6_ := offertorylaw29_LedgerSums.keepB BK295 hb
                                    have n7_ := Aside0.mk (Kd.C_below (by repeat (first | (with_reducible exact HR299_0.out) | (with_reducible refine Kd.C_alloc ?_ _) | (with_reducible refine Kd.C_drewN ?_ _) | (with_reducible refine Kd.C_drew ?_) | exact HR299_0.out)) hb)
                                    have n8_ := Aside0.mk (below_step (by repeat (first | (with_reducible first | exact HB.out | apply below_alloc | apply pw_below_drewN | apply below_drew1 | refine below_set ?_ GE293.out | refine below_set ?_ GE295.out) | exact HB.out)) hb)
                                    clear HO_1
                                    clear HO_294000
                                    clear HO_296000
                                    clear HL299_0
                                    clear BK293
                                    clear BK295
                                    clear HR299_0
                                    clear HB
                                    have HO_1 := n0_
                                    have HO_294000 := n1_
                                    have HO_296000 := n2_
                                    have HL299_0 := n3_
                                    have HO302 := n4_
                                    have BK293 := n5_
                                    have BK295 := n6_
                                    have HR299_0 := n7_
                                    have HB := n8_
                                    clear n0_ n1_ n2_ n3_ n4_ n5_ n6_ n7_ n8_
                                    (try clear hb)
                                    (try clear hb2)
                                    (try clear hk)
                                    (try clear hi)
                                    (try clear ho0)
                                    obtain ⟨Ao40, co40, eo40⟩ := Kd.R_slice HO302.out
                                    (first | subst eo40 | (injection eo40 with f1_ f2_ f3_; have f4_ := f1_.symm; have f5_ := f3_.symm; clear f1_ f2_ f3_; subst f4_; subst f5_))
                                    refine hK.out _ _ ⟨(blk_cell BK295.out 0).trans rfl, (blk_cell BK295.out 1).trans rfl, (blk_cell BK295.out 2).trans rfl, (blk_cell BK295.out 3).trans rfl, (blk_cell BK295.out 4).trans rfl, (blk_cell BK295.out 5).trans rfl, (blk_cell BK295.out 6).trans rfl, HS7_, HS8_, HS9_, HS10_, HS11_, HS12_, HS13_⟩ (fun hHeld => ?_)
                                    clear hK K
                                    refine norm_ (a' := ?_) ?_ ?_
                                    rotate_left
                                    · show Act.put _ (some 64) _ = _
                                      simp only [Act.put, List.setIfInBounds_toArray, List.set_cons_zero, List.set_cons_succ, i64_w, i32_w]
                                      rfl
                                    refine pure_ (i := 6) (N := some 58) (v := ?_) (a' := ?_) #[true, true, true, true, true, true, true, false, false, false, false] rfl rfl (any_of HT_.out (by kernel_rfl)) (fun _ _ _ h => h) (Or.inl ⟨by rfl, ?_⟩) ?_ ?_
                                    rotate_left
                                    · intro w'
                                      (try simp only [add_plain] at s0 s1 s2 s3 s4 s5 s6 s7 s8 s9 s10 s11 s12 s13)
                                      go_simp
                                      with_reducible rfl
                                    rotate_left
                                    · simp only [Act.put, List.setIfInBounds_toArray, List.set_cons_zero, List.set_cons_succ, i64_w, i32_w]
                                      rfl
                                    refine pure_ (i := 7) (N := some 65) (v := ?_) (a' := ?_) #[true, true, true, true, true, true, true, true, false, false, false] rfl rfl (any_of HT_.out (by kernel_rfl)) (fun _ _ _ h => h) (Or.inl ⟨by rfl, ?_⟩) ?_ ?_
                                    rotate_left
                                    · intro w'
                                      (try simp only [add_plain] at s0 s1 s2 s3 s4 s5 s6 s7 s8 s9 s10 s11 s12 s13)
                                      go_simp
                                      with_reducible rfl
                                    rotate_left
                                    · simp only [Act.put, List.setIfInBounds_toArray, List.set_cons_zero, List.set_cons_succ, i64_w, i32_w]
                                      rfl
                                    refine pure_ (i := 8) (N := some 66) (v := ?_) (a' := ?_) #[true, true, true, true, true, true, true, true, true, false, false] rfl rfl (any_of HT_.out (by kernel_rfl)) (fun _ _ _ h => h) (Or.inl ⟨by rfl, ?_⟩) ?_ ?_
                                    rotate_left
                                    · intro w'
                                      (try simp only [add_plain] at s0 s1 s2 s3 s4 s5 s6 s7 s8 s9 s10 s11 s12 s13)
                                      go_simp
                                      with_reducible rfl
                                    rotate_left
                                    · simp only [Act.put, List.setIfInBounds_toArray, List.set_cons_zero, List.set_cons_succ, i64_w, i32_w]
                                      rfl
                                    refine last_ (i := 9) (N := none) #[true, true, true, true, true, true, true, true, true, true, false] rfl rfl (one_of HT_.out (by kernel_rfl)) (by decide) (fun K hK => ?_)
                                    have hs41 : w39.cell? ⟨gb295, 0, none⟩ = some (.slice Ao38 x296000_6.length co38) := (blk_cell BK295.out 0).trans rfl
                                    have hfs41 := blk_frozen BK295.out 0
                                    have hns41_0 := NB293_295.out
                                    have hms41_0 := NB295_293.out
                                    have hs42 : w39.cell? ⟨gb295, 1, none⟩ = some (.int .i64 x296001_6) := (blk_cell BK295.out 1).trans rfl
                                    have hfs42 := blk_frozen BK295.out 1
                                    have hns42_0 := NB293_295.out
                                    have hms42_0 := NB295_293.out
                                    have hs43 : w39.cell? ⟨gb295, 2, none⟩ = some (.int .u64 x296002_6) := (blk_cell BK295.out 2).trans rfl
                                    have hfs43 := blk_frozen BK295.out 2
                                    have hns43_0 := NB293_295.out
                                    have hms43_0 := NB295_293.out
                                    have hs44 : w39.cell? ⟨gb295, 3, none⟩ = some (.int .u64 x296003_6) := (blk_cell BK295.out 3).trans rfl
                                    have hfs44 := blk_frozen BK295.out 3
                                    have hns44_0 := NB293_295.out
                                    have hms44_0 := NB295_293.out
                                    have hs45 : w39.cell? ⟨gb295, 4, none⟩ = some (.int .u64 x296004_6) := (blk_cell BK295.out 4).trans rfl
                                    have hfs45 := blk_frozen BK295.out 4
                                    have hns45_0 := NB293_295.out
                                    have hms45_0 := NB295_293.out
                                    have hs46 : w39.cell? ⟨gb295, 5, none⟩ = some (.int .u64 x296005_6) := (blk_cell BK295.out 5).trans rfl
                                    have hfs46 := blk_frozen BK295.out 5
                                    have hns46_0 := NB293_295.out
                                    have hms46_0 := NB295_293.out
                                    have hs47 : w39.cell? ⟨gb295, 6, none⟩ = some (.bool x296006_6) := (blk_cell BK295.out 6).trans rfl
                                    have hfs47 := blk_frozen BK295.out 6
                                    have hns47_0 := NB293_295.out
                                    have hms47_0 := NB295_293.out
                                    refine skip_ (w1 := ?_) ?_ ?_ ?_ ?_
                                    rotate_left
                                    · rfl
                                    · rfl
                                    ·
                                      go_simp
                                      rfl
                                    refine hK.out _ _ ?_
                                    clear hK K
                                    refine pure_ (i := 10) (N := some 7) (v := ?_) (a' := ?_) #[true, true, true, true, true, true, true, true, true, true, true] rfl rfl (any_of HT_.out (by kernel_rfl)) (fun _ _ _ h => h) (Or.inl ⟨by rfl, ?_⟩) ?_ ?_
                                    rotate_left
                                    · intro w'
                                      (try simp only [add_plain] at s0 s1 s2 s3 s4 s5 s6 s7 s8 s9 s10 s11 s12 s13)
                                      go_simp
                                      with_reducible rfl
                                    rotate_left
                                    · simp only [Act.put, List.setIfInBounds_toArray, List.set_cons_zero, List.set_cons_succ, i64_w, i32_w]
                                      rfl
                                    refine done_ (done_of HT_.out (by kernel_rfl)) ?_
                                    try go_wp2
                                    go_roundg k6
                                    case measure => have := HJ2.out; have := HJ7.out; have := HJ14.out; have := HK4.out; have := HJ19.out; have := HK6.out; omega
                                    case rel => exact ⟨(t309), (wrap64 (x10_6 + 1)), (t300), (t303), (t304), (t305), (t306), (t307), (t308), (.slice Ao40 t300.length co40), (by first | rfl | (simp; done) | (simp [*]; done)), (by first | rfl | (simp; done) | (simp [*]; done)), H', ⟨by have := HJ2.out; have := HJ7.out; have := HJ14.out; have := HK4.out; have := HJ19.out; have := HK6.out; omega⟩, ⟨by (with_reducible repeat (first | apply Kd.V_alloc | apply Kd.V_drewN | apply Kd.V_drew)); exact Kd.V_mono (Kd.V_far (p := ⟨gb295, 6, none⟩) (Kd.V_far (p := ⟨gb295, 5, none⟩) (Kd.V_far (p := ⟨gb295, 4, none⟩) (Kd.V_far (p := ⟨gb295, 3, none⟩) (Kd.V_far (p := ⟨gb295, 2, none⟩) (Kd.V_far (p := ⟨gb295, 1, none⟩) (Kd.V_far (p := ⟨gb295, 0, none⟩) (Kd.V_mono HO_1.out (fun k_ hk => (⟨hk, hk.1.2.2.2.2⟩ : _ ∧ k_ ≠ gb295))) (fun _ hk => hk.2) (.slice Ao40 t300.length co40)) (fun _ hk => hk.2) (.int .i64 t303)) (fun _ hk => hk.2) (.int .u64 t304)) (fun _ hk => hk.2) (.int .u64 t305)) (fun _ hk => hk.2) (.int .u64 t306)) (fun _ hk => hk.2) (.int .u64 t307)) (fun _ hk => hk.2) (.bool t308)) (fun _ hk => ⟨hk.1.1.1, ⟨hk.1.1.2.1, ⟨hk.1.2, ⟨hk.1.1.2.2.2.1, hk.1.1.2.2.2.2⟩⟩⟩⟩)⟩, ⟨by (with_reducible repeat (first | apply Kd.R_alloc | apply Kd.R_drewN | apply Kd.R_drew)); exact Kd.R_mono (Kd.R_far (p := ⟨gb295, 6, none⟩) (Kd.R_far (p := ⟨gb295, 5, none⟩) (Kd.R_far (p := ⟨gb295, 4, none⟩) (Kd.R_far (p := ⟨gb295, 3, none⟩) (Kd.R_far (p := ⟨gb295, 2, none⟩) (Kd.R_far (p := ⟨gb295, 1, none⟩) (Kd.R_far (p := ⟨gb295, 0, none⟩) (Kd.R_types HO_294000.out BK295.out (by decide)) (fun _ hk => hk.2) (.slice Ao40 t300.length co40)) (fun _ hk => hk.2) (.int .i64 t303)) (fun _ hk => hk.2) (.int .u64 t304)) (fun _ hk => hk.2) (.int .u64 t305)) (fun _ hk => hk.2) (.int .u64 t306)) (fun _ hk => hk.2) (.int .u64 t307)) (fun _ hk => hk.2) (.bool t308)) (fun _ hk => ⟨hk.1.1.1, hk.1.2⟩)⟩, ⟨by (with_reducible repeat (first | apply Kd.R_alloc | apply Kd.R_drewN | apply Kd.R_drew)); exact Kd.R_mono (Kd.R_far (p := ⟨gb295, 6, none⟩) (Kd.R_far (p := ⟨gb295, 5, none⟩) (Kd.R_far (p := ⟨gb295, 4, none⟩) (Kd.R_far (p := ⟨gb295, 3, none⟩) (Kd.R_far (p := ⟨gb295, 2, none⟩) (Kd.R_far (p := ⟨gb295, 1, none⟩) (Kd.R_far (p := ⟨gb295, 0, none⟩) (Kd.R_types HO302.out BK295.out (by decide)) (fun _ hk => hk.2) (.slice Ao40 t300.length co40)) (fun _ hk => hk.2) (.int .i64 t303)) (fun _ hk => hk.2) (.int .u64 t304)) (fun _ hk => hk.2) (.int .u64 t305)) (fun _ hk => hk.2) (.int .u64 t306)) (fun _ hk => hk.2) (.int .u64 t307)) (fun _ hk => hk.2) (.bool t308)) (fun _ hk => ⟨hk.1.1.1.1, hk.1.1.2⟩)⟩, ⟨by (repeat (first | (with_reducible first | refine blk_drewN ?_ _ | refine blk_drew ?_ | refine blk_alloc ?_ _) | refine blk_far ?_ NB293_295.out _)); (with_reducible repeat (first | refine blk_drewN ?_ _ | refine blk_drew ?_ | refine blk_alloc ?_ _)); exact BK293.out⟩, ⟨by (with_reducible repeat (first | refine blk_drewN ?_ _ | refine blk_drew ?_ | refine blk_alloc ?_ _)); refine blk_put (cs := #[.slice Ao40 t300.length co40, .int .i64 t303, .int .u64 t304, .int .u64 t305, .int .u64 t306, .int .u64 t307, .bool x296006_6]) ?_ 6 _ rfl; (with_reducible repeat (first | refine blk_drewN ?_ _ | refine blk_drew ?_ | refine blk_alloc ?_ _)); refine blk_put (cs := #[.slice Ao40 t300.length co40, .int .i64 t303, .int .u64 t304, .int .u64 t305, .int .u64 t306, .int .u64 x296005_6, .bool x296006_6]) ?_ 5 _ rfl; (with_reducible repeat (first | refine blk_drewN ?_ _ | refine blk_drew ?_ | refine blk_alloc ?_ _)); refine blk_put (cs := #[.slice Ao40 t300.length co40, .int .i64 t303, .int .u64 t304, .int .u64 t305, .int .u64 x296004_6, .int .u64 x296005_6, .bool x296006_6]) ?_ 4 _ rfl; (with_reducible repeat (first | refine blk_drewN ?_ _ | refine blk_drew ?_ | refine blk_alloc ?_ _)); refine blk_put (cs := #[.slice Ao40 t300.length co40, .int .i64 t303, .int .u64 t304, .int .u64 x296003_6, .int .u64 x296004_6, .int .u64 x296005_6, .bool x296006_6]) ?_ 3 _ rfl; (with_reducible repeat (first | refine blk_drewN ?_ _ | refine blk_drew ?_ | refine blk_alloc ?_ _)); refine blk_put (cs := #[.slice Ao40 t300.length co40, .int .i64 t303, .int .u64 x296002_6, .int .u64 x296003_6, .int .u64 x296004_6, .int .u64 x296005_6, .bool x296006_6]) ?_ 2 _ rfl; (with_reducible repeat (first | refine blk_drewN ?_ _ | refine blk_drew ?_ | refine blk_alloc ?_ _)); refine blk_put (cs := #[.slice Ao40 t300.length co40, .int .i64 x296001_6, .int .u64 x296002_6, .int .u64 x296003_6, .int .u64 x296004_6, .int .u64 x296005_6, .bool x296006_6]) ?_ 1 _ rfl; (with_reducible repeat (first | refine blk_drewN ?_ _ | refine blk_drew ?_ | refine blk_alloc ?_ _)); refine blk_put (cs := #[.slice Ao38 x296000_6.length co38, .int .i64 x296001_6, .int .u64 x296002_6, .int .u64 x296003_6, .int .u64 x296004_6, .int .u64 x296005_6, .bool x296006_6]) ?_ 0 _ rfl; (with_reducible repeat (first | refine blk_drewN ?_ _ | refine blk_drew ?_ | refine blk_alloc ?_ _)); exact BK295.out⟩, ⟨by repeat (first | (with_reducible first | exact HB.out | apply below_alloc | apply pw_below_drewN | apply below_drew1 | refine below_set ?_ GE293.out | refine below_set ?_ GE295.out) | exact HB.out)⟩⟩
                                  · rw [if_neg c35] at H
                                    exact absurd H (by simp)
                                · rw [if_neg c34] at H
                                  have c34b0 : (x7_6 == 0) = false := beq_eq_false_iff_ne.mpr c34
                                  have c34b1 : (x7_6 != 0) = true := bne_iff_ne.mpr c34
                                  have H' := Aside0.mk H
                                  clear H
                                  go_wp2
                                  go_meet
                                  case rel => exact ⟨_, (x7_6), (x296000_6), (x296001_6), (x296002_6), (x296003_6), (x296004_6), (x296005_6), (x296006_6), (u296000), (by first | rfl | (simp; done) | (simp [*]; done)), H', ⟨by have := HJ2.out; have := HJ7.out; have := HJ14.out; have := HK4.out; have := HJ19.out; have := HK6.out; first | omega | exact Nat.le_refl _⟩, ⟨by (with_reducible repeat (first | apply Kd.R_alloc | apply Kd.R_drewN | apply Kd.R_drew)); exact HO_294000.out⟩, ⟨by (with_reducible repeat (first | apply Kd.R_alloc | apply Kd.R_drewN | apply Kd.R_drew)); exact HO_296000.out⟩, ⟨by (with_reducible repeat (first | refine blk_drewN ?_ _ | refine blk_drew ?_ | refine blk_alloc ?_ _)); exact BK293.out⟩, ⟨by (with_reducible repeat (first | refine blk_drewN ?_ _ | refine blk_drew ?_ | refine blk_alloc ?_ _)); exact BK295.out⟩, ⟨by repeat (first | (with_reducible first | exact HB.out | apply below_alloc | apply pw_below_drewN | apply below_drew1 | refine below_set ?_ GE293.out | refine below_set ?_ GE295.out) | exact HB.out)⟩⟩
                              · rw [if_neg c33] at H
                                have c33b0 : decide (x10_6 < (x1_2.length : Int)) = false := decide_eq_false c33
                                clear c33
                                (first | rw [c33b0] | (simp only [i64_w, i32_w]; rw [c33b0]) | skip)
                                have H' := Aside0.mk H
                                clear H
                                go_wp2
                                go_meet
                                case rel => exact ⟨_, (x7_6), (x296000_6), (x296001_6), (x296002_6), (x296003_6), (x296004_6), (x296005_6), (x296006_6), (u296000), (by first | rfl | (simp; done) | (simp [*]; done)), H', ⟨by have := HJ2.out; have := HJ7.out; have := HJ14.out; have := HK4.out; have := HJ19.out; have := HK6.out; first | omega | exact Nat.le_refl _⟩, ⟨by (with_reducible repeat (first | apply Kd.R_alloc | apply Kd.R_drewN | apply Kd.R_drew)); exact HO_294000.out⟩, ⟨by (with_reducible repeat (first | apply Kd.R_alloc | apply Kd.R_drewN | apply Kd.R_drew)); exact HO_296000.out⟩, ⟨by (with_reducible repeat (first | refine blk_drewN ?_ _ | refine blk_drew ?_ | refine blk_alloc ?_ _)); exact BK293.out⟩, ⟨by (with_reducible repeat (first | refine blk_drewN ?_ _ | refine blk_drew ?_ | refine blk_alloc ?_ _)); exact BK295.out⟩, ⟨by repeat (first | (with_reducible first | exact HB.out | apply below_alloc | apply pw_below_drewN | apply below_drew1 | refine below_set ?_ GE293.out | refine below_set ?_ GE295.out) | exact HB.out)⟩⟩
                        case rest =>
                          clear HC32
                          try clear c1
                          try clear c2
                          try clear p2
                          try clear q2
                          try clear hx2
                          try clear c3
                          try clear c4
                          try clear c4b0
                          try clear c4b1
                          try clear c5
                          try clear c5b0
                          try clear c5b1
                          try clear p6
                          try clear q6
                          try clear c8
                          try clear c12
                          try clear c14
                          try clear c14b0
                          try clear c16
                          try clear c17
                          try clear c17b0
                          try clear c18
                          try clear c18b0
                          try clear c19
                          try clear c19b0
                          try clear c19b1
                          try clear c22
                          try clear c24
                          try clear c24b0
                          try clear c24b1
                          try clear c25
                          try clear c25b0
                          try clear c25b1
                          try clear c26
                          try clear c26b0
                          try clear c26b1
                          try clear c29
                          try clear p29
                          try clear q29
                          try clear hx29
                          try clear c30
                          try clear c33
                          try clear c33b0
                          try clear c34
                          try clear c34b0
                          try clear c34b1
                          try clear c35
                          try clear c35b0
                          try clear hcz13_0
                          try clear hcz13_1
                          try clear hcz13_2
                          try clear hcz13_3
                          try clear hcz13_4
                          try clear hcz13_5
                          try clear hcz13_6
                          try clear hcz23_0
                          try clear hcz23_1
                          try clear hcz23_2
                          try clear hcz23_3
                          try clear hcz23_4
                          try clear hcz23_5
                          try clear hcz23_6
                          try clear hcz31_0
                          try clear hcz31_1
                          try clear hcz31_2
                          try clear hcz31_3
                          try clear hcz31_4
                          try clear hcz31_5
                          try clear hcz31_6
                          try clear hfz13_0
                          try clear hfz13_1
                          try clear hfz13_2
                          try clear hfz13_3
                          try clear hfz13_4
                          try clear hfz13_5
                          try clear hfz13_6
                          try clear hfz23_0
                          try clear hfz23_1
                          try clear hfz23_2
                          try clear hfz23_3
                          try clear hfz23_4
                          try clear hfz23_5
                          try clear hfz23_6
                          try clear hfz31_0
                          try clear hfz31_1
                          try clear hfz31_2
                          try clear hfz31_3
                          try clear hfz31_4
                          try clear hfz31_5
                          try clear hfz31_6
                          try clear hx294_0
                          try clear hx294_1
                          try clear hx294_2
                          try clear hx294_3
                          try clear hx294_4
                          try clear hx294_5
                          try clear hx294_6
                          try clear hx299_0
                          try clear hx299_1
                          try clear hx299_2
                          try clear hx299_3
                          try clear hx299_4
                          try clear hx299_5
                          try clear hx299_6
                          try clear p2
                          try clear p29
                          try clear p294
                          try clear p299
                          try clear p6
                          try clear q2
                          try clear q29
                          try clear q294
                          try clear q299
                          try clear q6
                          obtain ⟨kq, x7_31, x296000_31, x296001_31, x296002_31, x296003_31, x296004_31, x296005_31, x296006_31, u296000, rfl, HA, HJ31, HO_294000, HO_296000, BK293, BK295, HB⟩ := hcut
                          cases kq with
                          | zero => exact absurd HA.out (by simp [offertorylaw29_LedgerSums.j6])
                          | succ kj31 =>
                            have H := HA.out
                            clear HA
                            simp only [offertorylaw29_LedgerSums.j6] at H
                            by_cases c48 : x7_31 = 0
                            · rw [if_pos c48] at H
                              have c48b0 : (x7_31 == 0) = true := beq_iff_eq.mpr c48
                              have c48b1 : (x7_31 != 0) = false := bne_eq_false_iff_eq.mpr c48
                              clear c48
                              replace H := Option.bind_eq_some_iff.mp H
                              obtain ⟨t310, A490, H⟩ := H
                              replace H : (if t310 = true then (if t292 = 0 then ((offertoryref09_Same.f kj31 t283 t286 t287 t288 t289 t290 t291 x296000_31 x296001_31 x296002_31 x296003_31 x296004_31 x296005_31 x296006_31).bind fun t311 => (some t311)) else (none)) else (none)) = some r := H
                              have A49 := Aside0.mk A490
                              clear A490
                              by_cases c50 : t310 = true
                              · subst c50
                                have H1 : (if t292 = 0 then ((offertoryref09_Same.f kj31 t283 t286 t287 t288 t289 t290 t291 x296000_31 x296001_31 x296002_31 x296003_31 x296004_31 x296005_31 x296006_31).bind fun t311 => (some t311)) else (none)) = some r := by rw [if_pos rfl] at H; exact H
                                clear H
                                have H := H1
                                clear H1
                                by_cases c51 : t292 = 0
                                · rw [if_pos c51] at H
                                  have c51b0 : (t292 == 0) = true := beq_iff_eq.mpr c51
                                  have c51b1 : (t292 != 0) = false := bne_eq_false_iff_eq.mpr c51
                                  clear c51
                                  replace H := Option.bind_eq_some_iff.mp H
                                  obtain ⟨t311, A520, H⟩ := H
                                  replace H : (some t311) = some r := H
                                  have A52 := Aside0.mk A520
                                  clear A520
                                  obtain rfl := Option.some.inj H
                                  go_wp2_with (first | ((with_reducible refine gate_callee (f := 9) rfl ?_); refine goesL_ (some 80) rfl rfl Try.func9 (by kernel_rfl) rfl #[] rfl (by (try simp only [List.map_toArray, List.map_cons, List.map_nil]); first | done | rfl | (simp only [List.length_drop, List.length_take]; rfl)) ?_; (with_reducible refine (offertorylaw29_awake.calls kj31  true _ A49.out).mono ?_); rintro e w53 ⟨rfl, hb⟩; refine ⟨_, rfl, ?_⟩; have n0_ := Aside0.mk (Kd.R_below (by (with_reducible repeat (first | apply Kd.R_alloc | apply Kd.R_drewN | apply Kd.R_drew)); exact HO_294000.out) hb); have n1_ := Aside0.mk (Kd.R_below (by (with_reducible repeat (first | apply Kd.R_alloc | apply Kd.R_drewN | apply Kd.R_drew)); exact HO_296000.out) hb); have n2_ := offertorylaw29_LedgerSums.keepB BK293 hb; have n3_ := offertorylaw29_LedgerSums.keepB BK295 hb; have n4_ := Aside0.mk (below_step (by repeat (first | (with_reducible first | exact HB.out | apply below_alloc | apply pw_below_drewN | apply below_drew1 | refine below_set ?_ GE293.out | refine below_set ?_ GE295.out) | exact HB.out)) hb); clear HO_294000; clear HO_296000; clear BK293; clear BK295; clear HB; have HO_294000 := n0_; have HO_296000 := n1_; have BK293 := n2_; have BK295 := n3_; have HB := n4_; clear n0_ n1_ n2_ n3_ n4_; (try clear hb); (try clear hb2); (try clear hk); (try clear hi); have hnb54 := NB293_295.out; have hnc54 := NB295_293.out; have hcz55_0 : w53.cell? ⟨gb293, 0, none⟩ = some (.slice Ao12 t283.length co12) := (blk_cell BK293.out 0).trans rfl; have hcz55_1 : w53.cell? ⟨gb293, 1, none⟩ = some (.int .i64 t286) := (blk_cell BK293.out 1).trans rfl; have hcz55_2 : w53.cell? ⟨gb293, 2, none⟩ = some (.int .u64 t287) := (blk_cell BK293.out 2).trans rfl; have hcz55_3 : w53.cell? ⟨gb293, 3, none⟩ = some (.int .u64 t288) := (blk_cell BK293.out 3).trans rfl; have hcz55_4 : w53.cell? ⟨gb293, 4, none⟩ = some (.int .u64 t289) := (blk_cell BK293.out 4).trans rfl; have hcz55_5 : w53.cell? ⟨gb293, 5, none⟩ = some (.int .u64 t290) := (blk_cell BK293.out 5).trans rfl; have hcz55_6 : w53.cell? ⟨gb293, 6, none⟩ = some (.bool t291) := (blk_cell BK293.out 6).trans rfl; have hfz55_0 := blk_frozen BK293.out 0; have hfz55_1 := blk_frozen BK293.out 1; have hfz55_2 := blk_frozen BK293.out 2; have hfz55_3 := blk_frozen BK293.out 3; have hfz55_4 := blk_frozen BK293.out 4; have hfz55_5 := blk_frozen BK293.out 5; have hfz55_6 := blk_frozen BK293.out 6; have hcz56_0 : w53.cell? ⟨gb295, 0, none⟩ = some (u296000) := (blk_cell BK295.out 0).trans rfl; have hcz56_1 : w53.cell? ⟨gb295, 1, none⟩ = some (.int .i64 x296001_31) := (blk_cell BK295.out 1).trans rfl; have hcz56_2 : w53.cell? ⟨gb295, 2, none⟩ = some (.int .u64 x296002_31) := (blk_cell BK295.out 2).trans rfl; have hcz56_3 : w53.cell? ⟨gb295, 3, none⟩ = some (.int .u64 x296003_31) := (blk_cell BK295.out 3).trans rfl; have hcz56_4 : w53.cell? ⟨gb295, 4, none⟩ = some (.int .u64 x296004_31) := (blk_cell BK295.out 4).trans rfl; have hcz56_5 : w53.cell? ⟨gb295, 5, none⟩ = some (.int .u64 x296005_31) := (blk_cell BK295.out 5).trans rfl; have hcz56_6 : w53.cell? ⟨gb295, 6, none⟩ = some (.bool x296006_31) := (blk_cell BK295.out 6).trans rfl; have hfz56_0 := blk_frozen BK295.out 0; have hfz56_1 := blk_frozen BK295.out 1; have hfz56_2 := blk_frozen BK295.out 2; have hfz56_3 := blk_frozen BK295.out 3; have hfz56_4 := blk_frozen BK295.out 4; have hfz56_5 := blk_frozen BK295.out 5; have hfz56_6 := blk_frozen BK295.out 6; obtain ⟨Ao57, co57, eo57⟩ := Kd.R_slice HO_296000.out; subst eo57) | (go_at_call 10; (with_reducible refine (offertoryref09_Same.calls kj31 _ _ t283 t286 t287 t288 t289 t290 t291 _ _ x296000_31 x296001_31 x296002_31 x296003_31 x296004_31 x296005_31 x296006_31 t311 _ ?side1 ?side2 ?side3 ?side4 A52.out).mono ?_); (case side1 => repeat (first | exact (Kd.R_reads' HO_294000.out).2.2 | (with_reducible refine Kd.C_alloc ?_ _) | (with_reducible refine Kd.C_drewN ?_ _) | (with_reducible refine Kd.C_drew ?_))); (case side2 => exact (Kd.R_reads' HO_294000.out).2.1); (case side3 => repeat (first | exact (Kd.R_reads' HO_296000.out).2.2 | (with_reducible refine Kd.C_alloc ?_ _) | (with_reducible refine Kd.C_drewN ?_ _) | (with_reducible refine Kd.C_drew ?_))); (case side4 => exact (Kd.R_reads' HO_296000.out).2.1); rintro e w58 ⟨rfl, hb⟩; have n0_ := Aside0.mk (Kd.R_below (by (with_reducible repeat (first | apply Kd.R_alloc | apply Kd.R_drewN | apply Kd.R_drew)); exact HO_294000.out) hb); have n1_ := Aside0.mk (Kd.R_below (by (with_reducible repeat (first | apply Kd.R_alloc | apply Kd.R_drewN | apply Kd.R_drew)); exact HO_296000.out) hb); have n2_ := offertorylaw29_LedgerSums.keepB BK293 hb; have n3_ := offertorylaw29_LedgerSums.keepB BK295 hb; have n4_ := Aside0.mk (below_step (by repeat (first | (with_reducible first | exact HB.out | apply below_alloc | apply pw_below_drewN | apply below_drew1 | refine below_set ?_ GE293.out | refine below_set ?_ GE295.out) | exact HB.out)) hb); clear HO_294000; clear HO_296000; clear BK293; clear BK295; clear HB; have HO_294000 := n0_; have HO_296000 := n1_; have BK293 := n2_; have BK295 := n3_; have HB := n4_; clear n0_ n1_ n2_ n3_ n4_; (try clear hb); (try clear hb2); (try clear hk); (try clear hi)))
                                  go_ret
                                  exact ⟨by first | rfl | (simp [errW_none, errW_some] <;> rfl) | (simp [*, errW_none, errW_some] <;> rfl), by repeat (first | (with_reducible first | exact HB.out | apply below_alloc | apply pw_below_drewN | apply below_drew1 | refine below_set ?_ GE293.out | refine below_set ?_ GE295.out) | exact HB.out)⟩
                                · rw [if_neg c51] at H
                                  exact absurd H (by simp)
                              · replace c50 := Bool.eq_false_iff.mpr c50
                                subst c50
                                have H1 : (none) = some r := by rw [if_neg (show ¬ (false = true) by decide)] at H; exact H
                                clear H
                                have H := H1
                                clear H1
                                exact absurd H (by simp)
                            · rw [if_neg c48] at H
                              have c48b0 : (x7_31 == 0) = false := beq_eq_false_iff_ne.mpr c48
                              have c48b1 : (x7_31 != 0) = true := bne_iff_ne.mpr c48
                              replace H := Option.bind_eq_some_iff.mp H
                              obtain ⟨t312, A590, H⟩ := H
                              replace H : (if t312 = true then (if t292 = x7_31 then ((offertoryref09_Same.f kj31 t283 t286 t287 t288 t289 t290 t291 ([] : List Int) 0 0 0 0 0 false).bind fun t313 => (some t313)) else (none)) else (none)) = some r := H
                              have A59 := Aside0.mk A590
                              clear A590
                              by_cases c60 : t312 = true
                              · subst c60
                                have H1 : (if t292 = x7_31 then ((offertoryref09_Same.f kj31 t283 t286 t287 t288 t289 t290 t291 ([] : List Int) 0 0 0 0 0 false).bind fun t313 => (some t313)) else (none)) = some r := by rw [if_pos rfl] at H; exact H
                                clear H
                                have H := H1
                                clear H1
                                by_cases c61 : t292 = x7_31
                                · rw [if_pos c61] at H
                                  have c61b0 : (t292 == x7_31) = true := beq_iff_eq.mpr c61
                                  have c61b1 : (t292 != x7_31) = false := bne_eq_false_iff_eq.mpr c61
                                  clear c61
                                  replace H := Option.bind_eq_some_iff.mp H
                                  obtain ⟨t313, A620, H⟩ := H
                                  replace H : (some t313) = some r := H
                                  have A62 := Aside0.mk A620
                                  clear A620
                                  obtain rfl := Option.some.inj H
                                  go_wp2_with (first | ((with_reducible refine gate_callee (f := 9) rfl ?_); refine goesL_ (some 69) rfl rfl Try.func9 (by kernel_rfl) rfl #[] rfl (by (try simp only [List.map_toArray, List.map_cons, List.map_nil]); first | done | rfl | (simp only [List.length_drop, List.length_take]; rfl)) ?_; (with_reducible refine (offertorylaw29_awake.calls kj31  true _ A59.out).mono ?_); rintro e w63 ⟨rfl, hb⟩; refine ⟨_, rfl, ?_⟩; have n0_ := Aside0.mk (Kd.R_below (by (with_reducible repeat (first | apply Kd.R_alloc | apply Kd.R_drewN | apply Kd.R_drew)); exact HO_294000.out) hb); have n1_ := Aside0.mk (Kd.R_below (by (with_reducible repeat (first | apply Kd.R_alloc | apply Kd.R_drewN | apply Kd.R_drew)); exact HO_296000.out) hb); have n2_ := offertorylaw29_LedgerSums.keepB BK293 hb; have n3_ := offertorylaw29_LedgerSums.keepB BK295 hb; have n4_ := Aside0.mk (below_step (by repeat (first | (with_reducible first | exact HB.out | apply below_alloc | apply pw_below_drewN | apply below_drew1 | refine below_set ?_ GE293.out | refine below_set ?_ GE295.out) | exact HB.out)) hb); clear HO_294000; clear HO_296000; clear BK293; clear BK295; clear HB; have HO_294000 := n0_; have HO_296000 := n1_; have BK293 := n2_; have BK295 := n3_; have HB := n4_; clear n0_ n1_ n2_ n3_ n4_; (try clear hb); (try clear hb2); (try clear hk); (try clear hi); have hnb64 := NB293_295.out; have hnc64 := NB295_293.out; have hcz65_0 : w63.cell? ⟨gb293, 0, none⟩ = some (.slice Ao12 t283.length co12) := (blk_cell BK293.out 0).trans rfl; have hcz65_1 : w63.cell? ⟨gb293, 1, none⟩ = some (.int .i64 t286) := (blk_cell BK293.out 1).trans rfl; have hcz65_2 : w63.cell? ⟨gb293, 2, none⟩ = some (.int .u64 t287) := (blk_cell BK293.out 2).trans rfl; have hcz65_3 : w63.cell? ⟨gb293, 3, none⟩ = some (.int .u64 t288) := (blk_cell BK293.out 3).trans rfl; have hcz65_4 : w63.cell? ⟨gb293, 4, none⟩ = some (.int .u64 t289) := (blk_cell BK293.out 4).trans rfl; have hcz65_5 : w63.cell? ⟨gb293, 5, none⟩ = some (.int .u64 t290) := (blk_cell BK293.out 5).trans rfl; have hcz65_6 : w63.cell? ⟨gb293, 6, none⟩ = some (.bool t291) := (blk_cell BK293.out 6).trans rfl; have hfz65_0 := blk_frozen BK293.out 0; have hfz65_1 := blk_frozen BK293.out 1; have hfz65_2 := blk_frozen BK293.out 2; have hfz65_3 := blk_frozen BK293.out 3; have hfz65_4 := blk_frozen BK293.out 4; have hfz65_5 := blk_frozen BK293.out 5; have hfz65_6 := blk_frozen BK293.out 6) | (go_at_call 10; (refine (offertoryref09_Same.calls kj31 _ _ t283 t286 t287 t288 t289 t290 t291 _ _ ([] : List Int) 0 0 0 0 0 false t313 _ ?side1 ?side2 ?side3 ?side4 A62.out).mono ?_); (case side1 => repeat (first | exact (Kd.R_reads' HO_294000.out).2.2 | (with_reducible refine Kd.C_alloc ?_ _) | (with_reducible refine Kd.C_drewN ?_ _) | (with_reducible refine Kd.C_drew ?_))); (case side2 => exact (Kd.R_reads' HO_294000.out).2.1); (case side3 => exact Kd.C_nil _ _); (case side4 => exact Nat.le_refl _); rintro e w66 ⟨rfl, hb⟩; have n0_ := Aside0.mk (Kd.R_below (by (with_reducible repeat (first | apply Kd.R_alloc | apply Kd.R_drewN | apply Kd.R_drew)); exact HO_294000.out) hb); have n1_ := Aside0.mk (Kd.R_below (by (with_reducible repeat (first | apply Kd.R_alloc | apply Kd.R_drewN | apply Kd.R_drew)); exact HO_296000.out) hb); have n2_ := offertorylaw29_LedgerSums.keepB BK293 hb; have n3_ := offertorylaw29_LedgerSums.keepB BK295 hb; have n4_ := Aside0.mk (below_step (by repeat (first | (with_reducible first | exact HB.out | apply below_alloc | apply pw_below_drewN | apply below_drew1 | refine below_set ?_ GE293.out | refine below_set ?_ GE295.out) | exact HB.out)) hb); clear HO_294000; clear HO_296000; clear BK293; clear BK295; clear HB; have HO_294000 := n0_; have HO_296000 := n1_; have BK293 := n2_; have BK295 := n3_; have HB := n4_; clear n0_ n1_ n2_ n3_ n4_; (try clear hb); (try clear hb2); (try clear hk); (try clear hi)))
                                  go_ret
                                  exact ⟨by first | rfl | (simp [errW_none, errW_some] <;> rfl) | (simp [*, errW_none, errW_some] <;> rfl), by repeat (first | (with_reducible first | exact HB.out | apply below_alloc | apply pw_below_drewN | apply below_drew1 | refine below_set ?_ GE293.out | refine below_set ?_ GE295.out) | exact HB.out)⟩
                                · rw [if_neg c61] at H
                                  exact absurd H (by simp)
                              · replace c60 := Bool.eq_false_iff.mpr c60
                                subst c60
                                have H1 : (none) = some r := by rw [if_neg (show ¬ (false = true) by decide)] at H; exact H
                                clear H
                                have H := H1
                                clear H1
                                exact absurd H (by simp)

end Go.Proofs.Yticihbccflflfaa.PAll
