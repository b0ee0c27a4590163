/- The Go functions that the laws reach, as Lean functions, and that each call comes to what its function says. Written by a program of this session (a turned copy of the kit's print). No condition beyond those that each theorem states. -/
import Derived.Test.YtpicmnkkkgedeaaDoorPAllx0
import Derived.Test.YtpicmnkkkgedeaaDoorPAllx1
import Derived.Test.YtpicmnkkkgedeaaDoorPAllx3
import Derived.Test.YtpicmnkkkgedeaaDoorPAllx4
namespace Go.Proofs.YtpicmnkkkgedeaaDoor.PAll
open Go.RowKit Go.Proofs.YtpicmnkkkgedeaaDoorW.PrintWords Go.Proofs.YtpicmnkkkgedeaaDoorW.PrintLast Go.Proofs.YtpicmnkkkgedeaaDoorW.PrintMore
attribute [local go_sem] max2_int min2_int max_two min_two max_three min_three max_four min_four   -- for this text's walks alone
set_option linter.unusedVariables false
set_option linter.unusedSimpArgs false

/-! ### what one donor gives -/
def giftL (k : Nat) (l2 : List (List (List Int))) (i : Int) : List Int → List Int → Option (List Int)
  | [], o => some o
  | n :: l, o =>
    if i < wrap64 (n - 1) then (if (0 ≤ i ∧ i < l2.length ∧ 0 ≤ wrap64 (n - 1) ∧ wrap64 (n - 1) < (rdM l2 i).length) then (ring_Add.f k o (rdV (rdM l2 i) (wrap64 (n - 1)))).bind fun b => giftL k l2 i l b.1 else none)
    else if wrap64 (n - 1) < i then (if (0 ≤ wrap64 (n - 1) ∧ wrap64 (n - 1) < l2.length ∧ 0 ≤ i ∧ i < (rdM l2 (wrap64 (n - 1))).length) then (ring_Sub.f k o (rdV (rdM l2 (wrap64 (n - 1))) i)).bind fun b => giftL k l2 i l b.1 else none)
    else giftL k l2 i l o
theorem giftL_mono (l2 : List (List (List Int))) (i : Int) (k : Nat) : ∀ (l o : List Int), LeO (giftL k l2 i l o) (giftL (k + 1) l2 i l o)
  | [], o => LeO.refl _
  | n :: l, o => by
    unfold giftL
    refine LeO.ite (LeO.ite (LeO.bind (ring_Add.mono _ _ _) fun b => giftL_mono l2 i k l b.1) (LeO.refl _)) (LeO.ite (LeO.ite (LeO.bind (ring_Sub.mono _ _ _) fun b => giftL_mono l2 i k l b.1) (LeO.refl _)) (giftL_mono l2 i k l o))
def ideal_gift.f (k : Nat) (l0 l1 : List (List Int)) (l2 : List (List (List Int))) (sh i : Int) : Option (List Int) :=
  if (0 ≤ i ∧ i < l0.length ∧ i < l1.length) then (ring_Add.f k (rdV l0 i) (rdV l1 i)).bind fun b => (crowd_List.f k sh).bind fun dl => if dl.length ≤ 1000000 then giftL k l2 i dl b.1 else none else none
theorem ideal_gift.mono (l0 l1 : List (List Int)) (l2 : List (List (List Int))) (sh i : Int) (k : Nat) : LeO (ideal_gift.f k l0 l1 l2 sh i) (ideal_gift.f (k + 1) l0 l1 l2 sh i) := by
  unfold ideal_gift.f
  exact LeO.ite (LeO.bind (ring_Add.mono _ _ _) fun b => LeO.bind (crowd_List.mono _ _) fun dl => LeO.ite (giftL_mono _ _ _ _ _) (LeO.refl _)) (LeO.refl _)
set_option maxHeartbeats 8000000 in
set_option maxRecDepth 100000 in
theorem gift_w (k : Nat) (w : World) (g : Nat) (A0 : Option Addr) (c0 : Nat) (l0 : List (List Int)) (A1 : Option Addr) (c1 : Nat) (l1 : List (List Int)) (A2 : Option Addr) (c2 : Nat) (l2 : List (List (List Int))) (sh gv : Int) (hs : w.heap[g]? = some (.cells #[.slice A0 l0.length c0, .slice A1 l1.length c1, .slice A2 l2.length c2, .int .u64 sh, .int .u64 gv] 49 (0, 0)))
    (hr0 : Kd.C (Kd.slice 37 (Kd.int .u32)) w A0 l0.length l0) (hc0 : l0.length ≤ c0) (hr1 : Kd.C (Kd.slice 37 (Kd.int .u32)) w A1 l1.length l1) (hc1 : l1.length ≤ c1) (hr2 : Kd.C (Kd.slice 35 (Kd.slice 37 (Kd.int .u32))) w A2 l2.length l2) (hc2 : l2.length ≤ c2) (i : Int) (o1 : List Int) (e1 : Int) (dl r : List Int) (hT : Tab w) (hi : 0 ≤ i) (hi0 : i < l0.length) (hi1 : i < l1.length) (ho : ring_Add.f k (rdV l0 i) (rdV l1 i) = some (o1, e1)) (hdl : crowd_List.f k sh = some dl) (hln : dl.length ≤ 1000000) (hg : giftL k l2 i dl o1 = some r) :
    Calls Tryd.prog 23 #[.pointer (some ⟨g, 0, none⟩), .int .i64 i] w fun e w' => ∃ v : Value, e = .returned v ∧ (Kd.int .u32).R 37 w' w.heap.size (fun _ => True) v r ∧ Below w.heap.size w w' := by
  have HSC := Aside0.mk hs
  obtain ⟨ad0, Ax, cx, rfl, hx0, hxl, hxr⟩ := at_V hr0 i hi hi0
  obtain ⟨ad1, Ay, cy, rfl, hy0, hyl, hyr⟩ := at_V hr1 i hi hi1
  have HX := Aside0.mk (And.intro hx0 (And.intro hxl hxr))
  have HY := Aside0.mk (And.intro hy0 (And.intro hyl hyr))
  have HS : Aside0 (w.cell? ⟨g, 0, none⟩ = some (.slice (some ad0) l0.length c0) ∧ w.cell? ⟨g, 1, none⟩ = some (.slice (some ad1) l1.length c1) ∧ w.cell? ⟨g, 3, none⟩ = some (.int .u64 sh)) := ⟨⟨(blk_cell hs 0).trans rfl, (blk_cell hs 1).trans rfl, (blk_cell hs 3).trans rfl⟩⟩
  have HR2 := Aside0.mk hr2
  have HT := Aside0.mk hT
  have HO := Aside0.mk ho
  have HDL := Aside0.mk hdl
  have HLN := Aside0.mk hln
  have HG := Aside0.mk hg
  have pi := eq_true hi
  have qi0 := eq_true hi0
  have qi1 := eq_true hi1
  clear hs hr0 hc0 hr1 hc1 hr2 hc2 hT hi hi0 hi1 ho hdl hln hg hx0 hxl hxr hy0 hyl hyr
  go_enter Tryd.func23, Tryd.ntmps23
  go_wp2_with fail
  obtain ⟨wd, ewd⟩ : ∃ x, x = w.drew := ⟨_, rfl⟩
  have HBD : Aside0 (Below w.heap.size w wd) := ⟨by rw [ewd]; exact below_drew1 (Below.refl _ _)⟩
  refine start_ (n := 21) (S := fun w' => w'.cell? ⟨g, 0, none⟩ = some (.slice (some ad0) l0.length c0) ∧ w'.cell? ⟨g, 1, none⟩ = some (.slice (some ad1) l1.length c1) ∧ w'.cell? (ad0.add i.toNat) = some (.slice Ax (rdV l0 i).length cx) ∧ w'.cell? (ad1.add i.toNat) = some (.slice Ay (rdV l1 i).length cy)) (ds := [15]) #[false, false, false, false, false, false, false, false, false, false, false, false, false, false, false, false, false, false, false, false, false] (by kernel_rfl) rfl rfl (by rw [← ewd]; exact ⟨pw_cell_below HBD.out HS.out.1, pw_cell_below HBD.out HS.out.2.1, pw_cell_below HBD.out HX.out.1, pw_cell_below HBD.out HY.out.1⟩) (fun hHeld => ?_)
  rw [← ewd] at hHeld ⊢
  clear ewd
  refine pure_ (i := 0) (N := some 11) (v := ?_) (a' := ?_) #[true, false, false, false, false, false, false, false, false, false, false, false, false, false, false, false, false, false, false, false, false] rfl rfl (by kernel_rfl) (fun _ _ _ h => h) (Or.inl ⟨by rfl, ?_⟩) ?_ ?_
  rotate_left
  · intro w'
    go_simp
    with_reducible rfl
  rotate_left
  · simp only [Act.put, List.setIfInBounds_toArray, List.set_cons_zero, List.set_cons_succ, i64_w, i32_w]
    rfl
  refine pure_ (i := 1) (N := some 12) (v := ?_) (a' := ?_) #[true, true, false, false, false, false, false, false, false, false, false, false, false, false, false, false, false, false, false, false, false] rfl rfl (by kernel_rfl) (fun _ _ _ h => h) (Or.inl ⟨by rfl, ?_⟩) ?_ ?_
  rotate_left
  · intro w'
    go_simp
    with_reducible rfl
  rotate_left
  · simp only [Act.put, List.setIfInBounds_toArray, List.set_cons_zero, List.set_cons_succ, i64_w, i32_w]
    rfl
  refine pure_ (i := 2) (N := some 13) (v := ?_) (a' := ?_) #[true, true, true, false, false, false, false, false, false, false, false, false, false, false, false, false, false, false, false, false, false] rfl rfl (by kernel_rfl) (fun _ _ _ h => h) (Or.inl ⟨by rfl, ?_⟩) ?_ ?_
  rotate_left
  · intro w'
    go_simp
    with_reducible rfl
  rotate_left
  · simp only [Act.put, List.setIfInBounds_toArray, List.set_cons_zero, List.set_cons_succ, i64_w, i32_w]
    rfl
  refine pure_ (i := 4) (N := some 15) (v := ?_) (a' := ?_) #[true, true, true, false, true, false, false, false, false, false, false, false, false, false, false, false, false, false, false, false, false] rfl rfl (by kernel_rfl) (fun _ _ _ h => h) (Or.inl ⟨by rfl, ?_⟩) ?_ ?_
  rotate_left
  · intro w'
    go_simp
    with_reducible rfl
  rotate_left
  · simp only [Act.put, List.setIfInBounds_toArray, List.set_cons_zero, List.set_cons_succ, i64_w, i32_w]
    rfl
  refine pure_ (i := 7) (N := some 18) (v := ?_) (a' := ?_) #[true, true, true, false, true, false, false, true, false, false, false, false, false, false, false, false, false, false, false, false, false] rfl rfl (by kernel_rfl) (fun _ _ _ h => h) (Or.inl ⟨by rfl, ?_⟩) ?_ ?_
  rotate_left
  · intro w'
    go_simp
    with_reducible rfl
  rotate_left
  · simp only [Act.put, List.setIfInBounds_toArray, List.set_cons_zero, List.set_cons_succ, i64_w, i32_w]
    rfl
  refine pure_ (i := 8) (N := some 19) (v := ?_) (a' := ?_) #[true, true, true, false, true, false, false, true, true, false, false, false, false, false, false, false, false, false, false, false, false] rfl rfl (by kernel_rfl) (fun _ _ _ h => h) (Or.inl ⟨by rfl, ?_⟩) ?_ ?_
  rotate_left
  · intro w'
    go_simp
    with_reducible rfl
  rotate_left
  · simp only [Act.put, List.setIfInBounds_toArray, List.set_cons_zero, List.set_cons_succ, i64_w, i32_w]
    rfl
  refine pure_ (i := 9) (N := some 20) (v := ?_) (a' := ?_) #[true, true, true, false, true, false, false, true, true, true, false, false, false, false, false, false, false, false, false, false, false] rfl rfl (by kernel_rfl) (fun _ _ _ h => h) (Or.inl ⟨by rfl, ?_⟩) ?_ ?_
  rotate_left
  · intro w'
    go_simp
    with_reducible rfl
  rotate_left
  · simp only [Act.put, List.setIfInBounds_toArray, List.set_cons_zero, List.set_cons_succ, i64_w, i32_w]
    rfl
  refine pure_ (i := 10) (N := some 21) (v := ?_) (a' := ?_) #[true, true, true, false, true, false, false, true, true, true, true, false, false, false, false, false, false, false, false, false, false] rfl rfl (by kernel_rfl) (fun _ _ _ h => h) (Or.inl ⟨by rfl, ?_⟩) ?_ ?_
  rotate_left
  · intro w'
    go_simp
    with_reducible rfl
  rotate_left
  · simp only [Act.put, List.setIfInBounds_toArray, List.set_cons_zero, List.set_cons_succ, i64_w, i32_w]
    rfl
  refine pure_ (i := 12) (N := some 23) (v := ?_) (a' := ?_) #[true, true, true, false, true, false, false, true, true, true, true, false, true, false, false, false, false, false, false, false, false] rfl rfl (by kernel_rfl) (fun _ _ _ h => h) (Or.inl ⟨by rfl, ?_⟩) ?_ ?_
  rotate_left
  · intro w'
    go_simp
    with_reducible rfl
  rotate_left
  · simp only [Act.put, List.setIfInBounds_toArray, List.set_cons_zero, List.set_cons_succ, i64_w, i32_w]
    rfl
  refine take_ (i := 3) (N := some 14) (v := ?_) (a' := ?_) #[true, true, true, true, true, false, false, true, true, true, true, false, true, false, false, false, false, false, false, false, false] rfl rfl (by kernel_rfl) (fun _ _ _ h => h) (Or.inl ⟨by rfl, ?_⟩) hHeld ?_ ?_
  rotate_left
  · rintro w' ⟨s0, s1, s2, s3⟩
    go_simp
    with_reducible rfl
  rotate_left
  · simp only [Act.put, List.setIfInBounds_toArray, List.set_cons_zero, List.set_cons_succ, i64_w, i32_w]
    rfl
  refine pure_ (i := 5) (N := some 16) (v := ?_) (a' := ?_) #[true, true, true, true, true, true, false, true, true, true, true, false, true, false, false, false, false, false, false, false, false] rfl rfl (by kernel_rfl) (fun _ _ _ h => h) (Or.inl ⟨by rfl, ?_⟩) ?_ ?_
  rotate_left
  · intro w'
    go_simp
    with_reducible rfl
  rotate_left
  · simp only [Act.put, List.setIfInBounds_toArray, List.set_cons_zero, List.set_cons_succ, i64_w, i32_w]
    rfl
  refine take_ (i := 6) (N := some 17) (v := ?_) (a' := ?_) #[true, true, true, true, true, true, true, true, true, true, true, false, true, false, false, false, false, false, false, false, false] rfl rfl (by kernel_rfl) (fun _ _ _ h => h) (Or.inl ⟨by rfl, ?_⟩) hHeld ?_ ?_
  rotate_left
  · rintro w' ⟨s0, s1, s2, s3⟩
    go_simp
    with_reducible rfl
  rotate_left
  · simp only [Act.put, List.setIfInBounds_toArray, List.set_cons_zero, List.set_cons_succ, i64_w, i32_w]
    rfl
  refine take_ (i := 11) (N := some 22) (v := ?_) (a' := ?_) #[true, true, true, true, true, true, true, true, true, true, true, true, true, false, false, false, false, false, false, false, false] rfl rfl (by kernel_rfl) (fun _ _ _ h => h) (Or.inl ⟨by rfl, ?_⟩) hHeld ?_ ?_
  rotate_left
  · rintro w' ⟨s0, s1, s2, s3⟩
    go_simp
    with_reducible rfl
  rotate_left
  · simp only [Act.put, List.setIfInBounds_toArray, List.set_cons_zero, List.set_cons_succ, i64_w, i32_w]
    rfl
  refine pure_ (i := 13) (N := some 24) (v := ?_) (a' := ?_) #[true, true, true, true, true, true, true, true, true, true, true, true, true, true, false, false, false, false, false, false, false] rfl rfl (by kernel_rfl) (fun _ _ _ h => h) (Or.inl ⟨by rfl, ?_⟩) ?_ ?_
  rotate_left
  · intro w'
    go_simp
    with_reducible rfl
  rotate_left
  · simp only [Act.put, List.setIfInBounds_toArray, List.set_cons_zero, List.set_cons_succ, i64_w, i32_w]
    rfl
  refine take_ (i := 14) (N := some 25) (v := ?_) (a' := ?_) #[true, true, true, true, true, true, true, true, true, true, true, true, true, true, true, false, false, false, false, false, false] rfl rfl (by kernel_rfl) (fun _ _ _ h => h) (Or.inl ⟨by rfl, ?_⟩) hHeld ?_ ?_
  rotate_left
  · rintro w' ⟨s0, s1, s2, s3⟩
    go_simp
    with_reducible rfl
  rotate_left
  · simp only [Act.put, List.setIfInBounds_toArray, List.set_cons_zero, List.set_cons_succ, i64_w, i32_w]
    rfl
  refine last_ (i := 15) (N := some 26) #[true, true, true, true, true, true, true, true, true, true, true, true, true, true, true, true, false, false, false, false, false] rfl rfl (by kernel_rfl) (by decide) (fun K hK => ?_)
  refine goes_ Tryd.func27 (by kernel_rfl) rfl #[.slice Ax (rdV l0 i).length cx, .slice Ay (rdV l1 i).length cy] (by rfl) rfl rfl (by (try simp only [List.map_toArray, List.map_cons, List.map_nil]); first | done | rfl) ?_
  with_reducible refine (ring_Add.calls k Ax cx (rdV l0 i) Ay cy (rdV l1 i) o1 e1 wd (Kd.C_below HX.out.2.2 HBD.out) HX.out.2.1 (Kd.C_below HY.out.2.2 HBD.out) HY.out.2.1 HO.out).mono ?_
  rintro e w1 ⟨v5, rfl, hR, hb⟩
  have HR1 := Aside0.mk (Kd.R_lower hR (below_size HBD.out))
  have HB1 := Aside0.mk (below_step HBD.out hb)
  clear hR hb
  refine ⟨_, rfl, ?_⟩
  refine hK.out _ _ ?_
  clear hK K
  refine norm_ (a' := ?_) ?_ ?_
  rotate_left
  · show Act.put _ (some 26) _ = _
    simp only [Act.put, List.setIfInBounds_toArray, List.set_cons_zero, List.set_cons_succ, i64_w, i32_w]
    rfl
  refine pure_ (i := 16) (N := some 10) (v := ?_) (a' := ?_) #[true, true, true, true, true, true, true, true, true, true, true, true, true, true, true, true, true, false, false, false, false] rfl rfl (by kernel_rfl) (fun _ _ _ h => h) (Or.inl ⟨by rfl, ?_⟩) ?_ ?_
  rotate_left
  · intro w'
    go_simp
    with_reducible rfl
  rotate_left
  · simp only [Act.put, List.setIfInBounds_toArray, List.set_cons_zero, List.set_cons_succ, i64_w, i32_w]
    rfl
  refine pure_ (i := 17) (N := some 27) (v := ?_) (a' := ?_) #[true, true, true, true, true, true, true, true, true, true, true, true, true, true, true, true, true, true, false, false, false] rfl rfl (by kernel_rfl) (fun _ _ _ h => h) (Or.inl ⟨by rfl, ?_⟩) ?_ ?_
  rotate_left
  · intro w'
    go_simp
    with_reducible rfl
  rotate_left
  · simp only [Act.put, List.setIfInBounds_toArray, List.set_cons_zero, List.set_cons_succ, i64_w, i32_w]
    rfl
  refine pure_ (i := 18) (N := some 28) (v := ?_) (a' := ?_) #[true, true, true, true, true, true, true, true, true, true, true, true, true, true, true, true, true, true, true, false, false] rfl rfl (by kernel_rfl) (fun _ _ _ h => h) (Or.inl ⟨by rfl, ?_⟩) ?_ ?_
  rotate_left
  · intro w'
    go_simp
    with_reducible rfl
  rotate_left
  · simp only [Act.put, List.setIfInBounds_toArray, List.set_cons_zero, List.set_cons_succ, i64_w, i32_w]
    rfl
  refine pure_ (i := 19) (N := some 5) (v := ?_) (a' := ?_) #[true, true, true, true, true, true, true, true, true, true, true, true, true, true, true, true, true, true, true, true, false] rfl rfl (by kernel_rfl) (fun _ _ _ h => h) (Or.inl ⟨by rfl, ?_⟩) ?_ ?_
  rotate_left
  · intro w'
    go_simp
    with_reducible rfl
  rotate_left
  · simp only [Act.put, List.setIfInBounds_toArray, List.set_cons_zero, List.set_cons_succ, i64_w, i32_w]
    rfl
  refine pure_ (i := 20) (N := some 6) (v := ?_) (a' := ?_) #[true, true, true, true, true, true, true, true, true, true, true, true, true, true, true, true, true, true, true, true, true] rfl rfl (by kernel_rfl) (fun _ _ _ h => h) (Or.inl ⟨by rfl, ?_⟩) ?_ ?_
  rotate_left
  · intro w'
    go_simp
    with_reducible rfl
  rotate_left
  · simp only [Act.put, List.setIfInBounds_toArray, List.set_cons_zero, List.set_cons_succ, i64_w, i32_w]
    rfl
  refine done_ (by kernel_rfl) ?_
  clear hHeld
  have hx3 := pw_cell_below HB1.out HS.out.2.2
  go_wp2_with (first | (go_at_call 38; (with_reducible refine (crowd_List.calls k sh dl _ (HT.out.step HB1.out) HDL.out).mono ?_); rintro e w2 ⟨vd, rfl, hR, hb⟩; have HR1' := Aside0.mk (Kd.R_below HR1.out hb); have HRD := Aside0.mk hR; have HB2 := Aside0.mk (below_step HB1.out hb); clear hR hb HR1 hx3; obtain ⟨Ad, cd, rfl⟩ := Kd.R_slice HRD.out))
  have HCD := Aside0.mk (Kd.R_reads' HRD.out).2.2
  clear HRD
  obtain ⟨N, eN⟩ : ∃ N, N = dl.length := ⟨_, rfl⟩
  go_loopg [35, 5] dl.length (fun kq v35 v5 w' => ∃ (j : Nat) (o : List Int), v35 = .int .i64 (j : Int) ∧ Aside0 (j + kq = dl.length) ∧ Aside0 (giftL k l2 i (dl.drop j) o = some r) ∧ Aside0 ((Kd.int .u32).R 37 w' w.heap.size (fun _ => True) v5 o) ∧ Aside0 (Below w2.heap.size w2 w'))
  case atStart => exact ⟨0, o1, rfl, ⟨Nat.zero_add _⟩, ⟨HG.out⟩, HR1', ⟨Below.refl _ _⟩⟩
  case round =>
    clear HR1' HG
    obtain ⟨j, o, rfl, HJ, HG, HRO', HB3⟩ := hrel
    obtain ⟨Ao, co, rfl⟩ := Kd.R_slice HRO'.out
    have HRO := Aside0.mk (Kd.R_reads' HRO'.out).2.2
    have HCO := Aside0.mk (Kd.R_reads' HRO'.out).2.1
    have hj := HJ.out
    cases gk with
    | zero =>
      rw [Nat.add_zero] at hj
      subst hj
      have hg := HG.out
      rw [List.drop_length] at hg
      simp only [giftL, Option.some.injEq] at hg
      subst hg
      go_wp2
      go_ret
      exact ⟨_, rfl, HRO'.out, below_step HB2.out HB3.out⟩
    | succ k1 =>
      have hlt : j < dl.length := by omega
      have hln := HLN.out
      have hg := HG.out
      rw [List.drop_eq_getElem_cons hlt, giftL] at hg
      have eg : dl[j] = dl.getD j 0 := by simp [List.getD, List.getElem?_eq_getElem hlt]
      rw [eg] at hg
      have p1 : 0 ≤ (j : Int) := by omega
      have q1 : (j : Int) < (dl.length : Int) := by omega
      have d1 : decide ((j : Int) < (dl.length : Int)) = true := decide_eq_true q1
      have d2 : decide (j < dl.length) = true := decide_eq_true hlt
      obtain ⟨adj, ej, hxj⟩ := Kd.at_int (Kd.C_below HCD.out HB3.out) (j : Int) p1 q1
      cases ej
      rw [show rd dl (j : Int) = dl.getD j 0 from rfl, Int.toNat_natCast] at hxj
      have EW : Aside0 (wrap64 ((j : Int) + 1) = ((j + 1 : Nat) : Int)) := ⟨by unfold wrap64; omega⟩
      obtain ⟨n, en⟩ : ∃ n, n = dl.getD j 0 := ⟨_, rfl⟩
      rw [← en] at hg hxj
      obtain ⟨kk, ekk⟩ : ∃ x, x = wrap64 (n - 1) := ⟨_, rfl⟩
      have hkk : wrap64 (n - 1) = kk := ekk.symm
      rw [hkk] at hg
      replace p1 := eq_true p1
      replace q1 := eq_true q1
      clear en eg hj hlt hln ekk
      by_cases hlt : i < kk
      · rw [if_pos hlt] at hg
        split at hg
        case isFalse => cases hg
        rename_i hix
        obtain ⟨⟨b1, b2⟩, hA, hg⟩ := Option.bind_eq_some_iff.mp hg
        have HIX := Aside0.mk hix
        have HA := Aside0.mk hA
        have HG1 := Aside0.mk hg
        have g1 : decide (kk > i) = true := decide_eq_true hlt
        have g2 : decide (i < kk) = true := decide_eq_true hlt
        clear hix hA hg
        go_wp2_with (first | (go_at_call 39; (with_reducible refine (pair_w _ g _ _ _ _ A2 c2 l2 i kk i kk (blk_below HSC.out (below_step HB2.out HB3.out)) (Kd.C_below HR2.out (below_step HB2.out HB3.out)) (Or.inl ⟨hlt, rfl, rfl⟩) HIX.out.1 HIX.out.2.1 HIX.out.2.2.1 HIX.out.2.2.2).mono ?_); rintro e w5 ⟨rfl, Ap, cp, rfl, hlp, hrp⟩; have HP := Aside0.mk (And.intro hlp hrp); clear hlp hrp) | (go_at_call 27; (with_reducible refine (ring_Add.calls k Ao co o Ap cp _ b1 b2 _ HRO.out HCO.out HP.out.2 HP.out.1 HA.out).mono ?_); rintro e w6 ⟨v6, rfl, hR, hb⟩))
        have HRN := Aside0.mk (Kd.R_lower hR (below_size (below_step HB2.out HB3.out)))
        have HBN := Aside0.mk (below_step HB3.out hb)
        clear hR hb
        go_wp2_with fail
        go_roundg k1
        case measure => omega
        case rel => exact ⟨j + 1, b1, by first | rfl | (rw [EW.out]), ⟨by have := HJ.out; omega⟩, HG1, HRN, HBN⟩
      · rw [if_neg hlt] at hg
        have g1 : decide (kk > i) = false := decide_eq_false hlt
        have g2 : decide (i < kk) = false := decide_eq_false hlt
        clear hlt
        by_cases hlt : kk < i
        · rw [if_pos hlt] at hg
          split at hg
          case isFalse => cases hg
          rename_i hix
          obtain ⟨⟨b1, b2⟩, hA, hg⟩ := Option.bind_eq_some_iff.mp hg
          have HIX := Aside0.mk hix
          have HA := Aside0.mk hA
          have HG1 := Aside0.mk hg
          have g3 : decide (kk < i) = true := decide_eq_true hlt
          clear hix hA hg
          go_wp2_with (first | (go_at_call 39; (with_reducible refine (pair_w _ g _ _ _ _ A2 c2 l2 i kk kk i (blk_below HSC.out (below_step HB2.out HB3.out)) (Kd.C_below HR2.out (below_step HB2.out HB3.out)) (Or.inr ⟨hlt, rfl, rfl⟩) HIX.out.1 HIX.out.2.1 HIX.out.2.2.1 HIX.out.2.2.2).mono ?_); rintro e w5 ⟨rfl, Ap, cp, rfl, hlp, hrp⟩; have HP := Aside0.mk (And.intro hlp hrp); clear hlp hrp) | (go_at_call 26; (with_reducible refine (ring_Sub.calls k Ao co o Ap cp _ b1 b2 _ HRO.out HCO.out HP.out.2 HP.out.1 HA.out).mono ?_); rintro e w6 ⟨v6, rfl, hR, hb⟩))
          have HRN := Aside0.mk (Kd.R_lower hR (below_size (below_step HB2.out HB3.out)))
          have HBN := Aside0.mk (below_step HB3.out hb)
          clear hR hb
          go_wp2_with fail
          go_roundg k1
          case measure => omega
          case rel => exact ⟨j + 1, b1, by first | rfl | (rw [EW.out]), ⟨by have := HJ.out; omega⟩, HG1, HRN, HBN⟩
        · rw [if_neg hlt] at hg
          have HG1 := Aside0.mk hg
          have g3 : decide (kk < i) = false := decide_eq_false hlt
          clear hlt hg
          go_wp2_with fail
          go_roundg k1
          case measure => omega
          case rel => exact ⟨j + 1, o, by first | rfl | (rw [EW.out]), ⟨by have := HJ.out; omega⟩, HG1, HRO', HB3⟩
theorem gift_c (k : Nat) (w : World) (g : Nat) (A0 : Option Addr) (c0 : Nat) (l0 : List (List Int)) (A1 : Option Addr) (c1 : Nat) (l1 : List (List Int)) (A2 : Option Addr) (c2 : Nat) (l2 : List (List (List Int))) (sh gv : Int) (hs : w.heap[g]? = some (.cells #[.slice A0 l0.length c0, .slice A1 l1.length c1, .slice A2 l2.length c2, .int .u64 sh, .int .u64 gv] 49 (0, 0)))
    (hr0 : Kd.C (Kd.slice 37 (Kd.int .u32)) w A0 l0.length l0) (hc0 : l0.length ≤ c0) (hr1 : Kd.C (Kd.slice 37 (Kd.int .u32)) w A1 l1.length l1) (hc1 : l1.length ≤ c1) (hr2 : Kd.C (Kd.slice 35 (Kd.slice 37 (Kd.int .u32))) w A2 l2.length l2) (hc2 : l2.length ≤ c2) (i : Int) (r : List Int) (hT : Tab w) (h : ideal_gift.f k l0 l1 l2 sh i = some r) :
    Calls Tryd.prog 23 #[.pointer (some ⟨g, 0, none⟩), .int .i64 i] w fun e w' => ∃ v : Value, e = .returned v ∧ (Kd.int .u32).R 37 w' w.heap.size (fun _ => True) v r ∧ Below w.heap.size w w' := by
  unfold ideal_gift.f at h
  split at h
  case isFalse => cases h
  rename_i hi
  obtain ⟨⟨o1, e1⟩, ho, h⟩ := Option.bind_eq_some_iff.mp h
  obtain ⟨dl, hdl, h⟩ := Option.bind_eq_some_iff.mp h
  split at h
  case isFalse => cases h
  rename_i hln
  exact gift_w k w g A0 c0 l0 A1 c1 l1 A2 c2 l2 sh gv hs hr0 hc0 hr1 hc1 hr2 hc2 i o1 e1 dl r hT hi.1 hi.2.1 hi.2.2 ho hdl hln h

end Go.Proofs.YtpicmnkkkgedeaaDoor.PAll
