/- The Go functions that the laws reach, as Lean functions, and that each call comes to what its function says. Written by a program of this session (a turned copy of the kit's print). No condition beyond those that each theorem states. -/
import Derived.Test.YtpicmnkkkgedeaaDoorPAllx0
import Derived.Test.YtpicmnkkkgedeaaDoorPAllx1
import Derived.Test.YtpicmnkkkgedeaaDoorPAllx2
import Derived.Test.YtpicmnkkkgedeaaDoorPAllx3
import Derived.Test.YtpicmnkkkgedeaaDoorPAllx4
import Derived.Test.YtpicmnkkkgedeaaDoorPAllx6
import Derived.Test.YtpicmnkkkgedeaaDoorPAllx7
import Derived.Test.YtpicmnkkkgedeaaDoorPAllx8
import Derived.Test.YtpicmnkkkgedeaaDoorPAllx9
namespace Go.Proofs.YtpicmnkkkgedeaaDoor.PAll
open Go.RowKit Go.Proofs.YtpicmnkkkgedeaaDoorW.PrintWords Go.Proofs.YtpicmnkkkgedeaaDoorW.PrintLast Go.Proofs.YtpicmnkkkgedeaaDoorW.PrintMore
attribute [local go_sem] max2_int min2_int max_two min_two max_three min_three max_four min_four   -- for this text's walks alone
set_option linter.unusedVariables false
set_option linter.unusedSimpArgs false

/-! ### ideal_Turn: function 16 -/
/-! ### the masks by which other inputs look the same -/
def turnP (k : Nat) (pair : List (List (List Int))) (run : List Int) (last : Int) (i : Nat) : Option (List (List (List Int))) :=
  if 0 ≤ last then (ring_Add.f k (rdV (rdM pair last) (i : Int)) run).bind fun x => some (pair.set last.toNat ((rdM pair last).set i x.1)) else some pair
def turnS (k : Nat) (a b : List (List Int)) (sh gv : Int) : Nat → Nat → List (List Int) → List (List (List Int)) → List Int → Int → Option (List (List Int) × List (List (List Int)) × List Int)
  | 0, _, o, p, r, _ => some (o, p, r)
  | m + 1, i, o, p, r, last => (ring_Sub.f k (rdV a (i : Int)) (rdV b (i : Int))).bind fun d => (crowd_Has.f gv ((i : Int) + 1)).bind fun g => if g = true then (turnP k p r last i).bind fun p2 => (ring_Add.f k r d.1).bind fun r2 => turnS k a b sh gv m (i + 1) o p2 r2.1 (i : Int) else (crowd_Has.f sh ((i : Int) + 1)).bind fun s => if s = true then (ring_Add.f k (rdV o (i : Int)) d.1).bind fun x => turnS k a b sh gv m (i + 1) (o.set i x.1) p r last else turnS k a b sh gv m (i + 1) o p r last
theorem turnP_mono (pair : List (List (List Int))) (run : List Int) (last : Int) (i k : Nat) : LeO (turnP k pair run last i) (turnP (k + 1) pair run last i) := by
  unfold turnP
  exact LeO.ite (LeO.bind (ring_Add.mono _ _ _) fun x => LeO.refl _) (LeO.refl _)
theorem turnS_mono (a b : List (List Int)) (sh gv : Int) (k : Nat) : ∀ (m i : Nat) (o : List (List Int)) (p : List (List (List Int))) (r : List Int) (last : Int), LeO (turnS k a b sh gv m i o p r last) (turnS (k + 1) a b sh gv m i o p r last)
  | 0, _, o, p, r, _ => LeO.refl _
  | m + 1, i, o, p, r, last => by
    unfold turnS
    exact LeO.bind (ring_Sub.mono _ _ _) fun d => LeO.bind (LeO.refl _) fun g => LeO.ite (LeO.bind (turnP_mono _ _ _ _ _) fun p2 => LeO.bind (ring_Add.mono _ _ _) fun r2 => turnS_mono a b sh gv k m (i + 1) _ _ _ _) (LeO.bind (LeO.refl _) fun s => LeO.ite (LeO.bind (ring_Add.mono _ _ _) fun x => turnS_mono a b sh gv k m (i + 1) _ _ _ _) (turnS_mono a b sh gv k m (i + 1) _ _ _ _))
def ideal_Turn.f (k : Nat) (l0 l9 l1 : List (List Int)) (l2 : List (List (List Int))) (sh gv : Int) : Option (List (List Int) × List (List (List Int)) × Int) :=
  (ideal_check.f k l0 l1 l2 sh gv).bind fun e1 => if e1 = 0 then (ideal_check.f k l9 l1 l2 sh gv).bind fun e2 => if e2 = 0 then (if (l0.length ≤ 1000 ∧ l9.length = l0.length ∧ l1.length = l0.length ∧ l2.length = l0.length ∧ (∀ x ∈ l2, x.length = l0.length) ∧ (∀ x ∈ l1, x.length ≤ 1000000) ∧ (∀ x ∈ l2, ∀ y ∈ x, y.length ≤ 1000000) ∧ (rdV l0 0).length ≤ 1000000) then
    (turnS k l0 l9 sh gv l0.length 0 l1 l2 (List.replicate (rdV l0 0).length 0) (-1)).bind fun s => (slices_ContainsFunc_uint32_uint32_28_f29.f k s.2.2 0).bind fun c => if c = true then some ([], [], 11) else some (s.1, s.2.1, 0) else none) else some ([], [], e2) else some ([], [], e1)
theorem ideal_Turn.mono (l0 l9 l1 : List (List Int)) (l2 : List (List (List Int))) (sh gv : Int) (k : Nat) : LeO (ideal_Turn.f k l0 l9 l1 l2 sh gv) (ideal_Turn.f (k + 1) l0 l9 l1 l2 sh gv) := by
  unfold ideal_Turn.f
  exact LeO.bind (ideal_check.mono _ _ _ _ _ _) fun e1 => LeO.ite (LeO.bind (ideal_check.mono _ _ _ _ _ _) fun e2 => LeO.ite (LeO.ite (LeO.bind (turnS_mono _ _ _ _ _ _ _ _ _ _ _) fun s => LeO.bind (slices_ContainsFunc_uint32_uint32_28_f29.mono _ _ _) fun c => LeO.refl _) (LeO.refl _)) (LeO.refl _)) (LeO.refl _)
theorem own_c (w : World) (n : Nat) (ad1 : Addr) (c1 : Nat) (l1 : List (List Int)) (ad2 : Addr) (c2 : Nat) (l2 : List (List (List Int)))
    (hr1 : Kd.C (Kd.slice 37 (Kd.int .u32)) w (some ad1) l1.length l1) (hc1 : l1.length ≤ c1) (hr2 : Kd.C (Kd.slice 35 (Kd.slice 37 (Kd.int .u32))) w (some ad2) l2.length l2) (hc2 : l2.length ≤ c2) (hp : 0 < n) (h1 : l1.length = n) (h2 : l2.length = n) (hn : n ≤ 1000000)
    (hb1 : ∀ i : Nat, i < n → (rdV l1 (i : Int)).length ≤ 1000000) (hb2 : ∀ i : Nat, i < n → (rdM l2 (i : Int)).length = n) (hb3 : ∀ i j : Nat, i < n → j < n → (rdV (rdM l2 (i : Int)) (j : Int)).length ≤ 1000000) :
    Calls Tryd.prog 25 #[.agg #[.slice (some ad1) l1.length c1, .slice (some ad2) l2.length c2]] w fun e w' => ∃ (g0 g1 cv cw : Nat) (cs0 cs1 : List Value) (mids : List Rw) (Lf : Value → List Int → Prop), e = .returned (.agg #[.slice (some ⟨g0, 0, none⟩) n cv, .slice (some ⟨g1, 0, none⟩) n cw]) ∧ Hq w [] ((35, .slice (some ⟨g0, 0, none⟩) n cv, cs0) :: (22, .slice (some ⟨g1, 0, none⟩) n cw, cs1) :: mids) Lf w' ∧ RV Lf cs0 l1 ∧ RMX mids Lf cs1 l2 := by
  refine (own_w w ad1 c1 l1 ad2 c2 l2 hr1 hc1 hr2 hc2 (by omega) (by omega) (fun i hi => hb1 i (by omega)) (fun i hi => by rw [hb2 i (by omega)]; exact hn) (fun i j hi hj => hb3 i j (by omega) (by rw [hb2 i (by omega)] at hj; exact hj))).mono ?_
  rintro e w' ⟨Av, Aw, cv, cw, cs0, cs1, mids, Lf, rfl, H, _, hv, hm⟩
  have e0 : cs0.length = n := by rw [hv.1, h1]
  have e1 : cs1.length = n := by rw [hm.1, h2]
  obtain ⟨g0, c, e2⟩ := H.form 0 rfl (by omega)
  obtain ⟨g1, c', e3⟩ := H.form 1 rfl (by omega)
  simp only [Value.slice.injEq, true_and] at e2 e3
  obtain ⟨rfl, rfl⟩ := e2
  obtain ⟨rfl, rfl⟩ := e3
  rw [e0, e1] at H
  exact ⟨g0, g1, cv, cw, cs0, cs1, mids, Lf, by rw [e0, e1], H, hv, hm⟩
theorem info_37S : (Tryd.prog.info? 37).map (fun i => (i.zero, i.size, i.bytes)) = some (some (.int .u32 0), 1, 4) := by kernel_rfl
theorem madeZ (n : Nat) : madeCells #[.int .u32 0] n = ((List.replicate n (0 : Int)).map (Value.int .u32)).toArray := by
  apply Array.ext
  · simp [madeCells]
  · intro i h1 h2
    simp [madeCells, Nat.mod_one]
theorem make35 (n : Nat) (hn : n ≤ 1000000) (W : World) : (Instr.makeSlice 35 (.int .i64 (n : Int)) (.int .i64 (n : Int))).run Tryd.prog W = .ok (.slice (some ⟨W.heap.size, 0, none⟩) n n) (W.alloc (.cells ((List.replicate n (0 : Int)).map (Value.int .u32)).toArray 37)) := by
  rw [← madeZ]
  exact print_make_of 35 37 (.int .u32 0) 4 Tryd.underlying35 info_37S rfl (by decide) n (by omega) W
theorem row_blkZ {W : World} {g base n : Nat} (hb : W.heap[g]? = some (.cells ((List.replicate n (0 : Int)).map (Value.int .u32)).toArray 37 (0, 0))) (hg : base ≤ g) (hl : n ≤ 1000000) : (Kd.int .u32).R 37 W base (fun _ => True) (.slice (some ⟨g, 0, none⟩) n n) (List.replicate n 0) :=
  Kd.R_of_own ⟨by simp [encs], Or.inr ⟨g, n, _, by simp, hg, hb, by simp, by simp only [maxLen]; omega, by simp, by simp [encs, List.take_of_length_le]⟩⟩ (fun _ _ => trivial)
set_option maxHeartbeats 16000000 in
set_option maxRecDepth 100000 in
theorem turn_bad1 (k : Nat) (w : World) (A0 : Option Addr) (c0 : Nat) (l0 : List (List Int)) (A9 : Option Addr) (c9 : Nat) (l9 : List (List Int)) (A1 : Option Addr) (c1 : Nat) (l1 : List (List Int)) (A2 : Option Addr) (c2 : Nat) (l2 : List (List (List Int))) (sh gv : Int)
    (hr0 : Kd.C (Kd.slice 37 (Kd.int .u32)) w A0 l0.length l0) (hc0 : l0.length ≤ c0) (hr9 : Kd.C (Kd.slice 37 (Kd.int .u32)) w A9 l9.length l9) (hc9 : l9.length ≤ c9) (hr1 : Kd.C (Kd.slice 37 (Kd.int .u32)) w A1 l1.length l1) (hc1 : l1.length ≤ c1) (hr2 : Kd.C (Kd.slice 35 (Kd.slice 37 (Kd.int .u32))) w A2 l2.length l2) (hc2 : l2.length ≤ c2) (r : Int) (hr : r ≠ 0) (he1 : ideal_check.f k l0 l1 l2 sh gv = some r) :
    Calls Tryd.prog 16 #[.slice A0 l0.length c0, .slice A9 l9.length c9, .agg #[.slice A1 l1.length c1, .slice A2 l2.length c2], .int .u64 sh, .int .u64 gv] w fun e w' => e = .returned (.tuple #[.agg #[.slice none 0 0, .slice none 0 0], .int .i64 r]) ∧ Below w.heap.size w w' := by
  have hu25 := Tryd.underlying25
  have hu49 := Tryd.underlying49
  have hu54 := Tryd.underlying54
  have HR0 := Aside0.mk hr0
  have HC0 := Aside0.mk hc0
  have HR9 := Aside0.mk hr9
  have HC9 := Aside0.mk hc9
  have HR1 := Aside0.mk hr1
  have HC1 := Aside0.mk hc1
  have HR2 := Aside0.mk hr2
  have HC2 := Aside0.mk hc2
  have HE1 := Aside0.mk he1
  have e1 : (r != 0) = true := bne_iff_ne.2 hr
  have e2 : (r == 0) = false := beq_eq_false_iff_ne.2 hr
  clear hr he1
  clear hr0 hc0 hr9 hc9 hr1 hc1 hr2 hc2
  go_enter Tryd.func16, Tryd.ntmps16
  go_wp2_with (first | ((with_reducible refine gate_dst (N := 7) rfl ?_); refine box_event ?hg (N := 7) ?hd (cs := #[.slice A1 l1.length c1, .slice A2 l2.length c2]) (t := 25) ?hr ?_; (case hd => rfl); (case hg => rfl); (case hr => first | (go_simp; done) | (go_simp; rfl)); intro gm hg wa1 hbox hb; have H0 : Aside0 (Hq w [(gm, 25, #[.slice A1 l1.length c1, .slice A2 l2.length c2])] [] Lf0 wa1) := ⟨(Hq.none_ w).box (Nat.le_of_eq hg.symm) hbox hb (by decide)⟩; clear hb hbox hg) | ((with_reducible refine gate_dst (N := 10) rfl ?_); refine box_event ?hg (N := 10) ?hd (cs := #[.slice none 0 0, .slice none 0 0]) (t := 25) ?hr ?_; (case hd => rfl); (case hg => rfl); (case hr => first | (go_simp; done) | (go_simp; rfl)); intro gr hg wa2 hbox hb; have H1 : Aside0 (Hq w [(gm, 25, #[.slice A1 l1.length c1, .slice A2 l2.length c2]), (gr, 25, #[.slice none 0 0, .slice none 0 0])] [] Lf0 wa2) := ⟨H0.out.box (Nat.le_of_eq hg.symm) hbox hb (by decide)⟩; clear hb hbox hg; obtain ⟨y0, y1, y2, y3⟩ := cells2 (H1.out.get 0 rfl)) | ((with_reducible refine gate_dst (N := 26) rfl ?_); refine box_event ?hg (N := 26) ?hd (cs := #[.slice A0 l0.length c0, .slice A1 l1.length c1, .slice A2 l2.length c2, .int .u64 sh, .int .u64 gv]) (t := 49) ?hr ?_; (case hd => rfl); (case hg => rfl); (case hr => first | (go_simp; done) | (go_simp; rfl)); intro gs hg wa3 hbox hb; have H2 : Aside0 (Hq w [(gm, 25, #[.slice A1 l1.length c1, .slice A2 l2.length c2]), (gr, 25, #[.slice none 0 0, .slice none 0 0]), (gs, 49, #[.slice A0 l0.length c0, .slice A1 l1.length c1, .slice A2 l2.length c2, .int .u64 sh, .int .u64 gv])] [] Lf0 wa3) := ⟨H1.out.box (Nat.le_of_eq hg.symm) hbox hb (by decide)⟩; clear hb hbox hg y0 y1 y2 y3; obtain ⟨y0, y1, y2, y3⟩ := cells2 (H2.out.get 0 rfl)) | ((with_reducible refine gate_dst (N := 32) rfl ?_); refine box_event ?hg (N := 32) ?hd (cs := #[.slice A9 l9.length c9, .slice A1 l1.length c1, .slice A2 l2.length c2, .int .u64 sh, .int .u64 gv]) (t := 49) ?hr ?_; (case hd => rfl); (case hg => rfl); (case hr => first | (go_simp; done) | (go_simp; rfl)); intro gt hg wa4 hbox hb; have H3 : Aside0 (Hq w [(gm, 25, #[.slice A1 l1.length c1, .slice A2 l2.length c2]), (gr, 25, #[.slice none 0 0, .slice none 0 0]), (gs, 49, #[.slice A0 l0.length c0, .slice A1 l1.length c1, .slice A2 l2.length c2, .int .u64 sh, .int .u64 gv]), (gt, 49, #[.slice A9 l9.length c9, .slice A1 l1.length c1, .slice A2 l2.length c2, .int .u64 sh, .int .u64 gv])] [] Lf0 wa4) := ⟨H2.out.box (Nat.le_of_eq hg.symm) hbox hb (by decide)⟩; clear hb hbox hg y0 y1 y2 y3) | ((with_reducible refine gate_dst (N := 33) rfl ?_); refine row_event ?hg (n := 2) (cs := #[.pointer (some ⟨gs, 0, none⟩), .pointer (some ⟨gt, 0, none⟩)]) (t := 47) ?hr ?_; (case hg => rfl); (case hr => first | (go_simp; done) | (go_simp; rfl)); intro gp hg wa5 hbox hb; have H4 : Aside0 (Hq w [(gm, 25, #[.slice A1 l1.length c1, .slice A2 l2.length c2]), (gr, 25, #[.slice none 0 0, .slice none 0 0]), (gs, 49, #[.slice A0 l0.length c0, .slice A1 l1.length c1, .slice A2 l2.length c2, .int .u64 sh, .int .u64 gv]), (gt, 49, #[.slice A9 l9.length c9, .slice A1 l1.length c1, .slice A2 l2.length c2, .int .u64 sh, .int .u64 gv]), (gp, 47, #[.pointer (some ⟨gs, 0, none⟩), .pointer (some ⟨gt, 0, none⟩)])] [] Lf0 wa5) := ⟨H3.out.box hg hbox hb (by decide)⟩; clear hg hbox hb H0 H1 H2 H3; obtain ⟨y0, y1, y2, y3⟩ := cells2 (H4.out.get 4 rfl)))
  refine wp_loop_rounds 1 ?_
  rw [rounds_succ]
  go_wp2_with (first | (go_at_call 21; (with_reducible refine (check_w k wa5 gs A0 c0 l0 A1 c1 l1 A2 c2 l2 sh gv (H4.out.get 2 rfl) (Kd.C_below HR0.out H4.out.hb) HC0.out (Kd.C_below HR1.out H4.out.hb) HC1.out (Kd.C_below HR2.out H4.out.hb) HC2.out r HE1.out).mono ?_); rintro e wb1 ⟨rfl, hb⟩; have H5 := Aside0.mk (H4.out.below hb); clear hb H4 y0 y1 y2 y3; obtain ⟨x0, x1, z0, z1⟩ := cells2 (H5.out.get 1 rfl)))
  have HF := (H5.out.put 1 rfl 0 (.slice none 0 0) rfl).put 1 rfl 1 (.slice none 0 0) rfl
  refine bodyPost_ret (results_ct rfl _ _ gr 25 #[.slice none 0 0, .slice none 0 0] (0, 0) _ rfl (HF.get 1 rfl) Tryd.underlying25 rfl (by kernel_rfl)) rfl ?_
  exact ⟨by first | rfl | (simp; done), HF.hb⟩
set_option maxHeartbeats 16000000 in
set_option maxRecDepth 100000 in
theorem turn_bad2 (k : Nat) (w : World) (A0 : Option Addr) (c0 : Nat) (l0 : List (List Int)) (A9 : Option Addr) (c9 : Nat) (l9 : List (List Int)) (A1 : Option Addr) (c1 : Nat) (l1 : List (List Int)) (A2 : Option Addr) (c2 : Nat) (l2 : List (List (List Int))) (sh gv : Int)
    (hr0 : Kd.C (Kd.slice 37 (Kd.int .u32)) w A0 l0.length l0) (hc0 : l0.length ≤ c0) (hr9 : Kd.C (Kd.slice 37 (Kd.int .u32)) w A9 l9.length l9) (hc9 : l9.length ≤ c9) (hr1 : Kd.C (Kd.slice 37 (Kd.int .u32)) w A1 l1.length l1) (hc1 : l1.length ≤ c1) (hr2 : Kd.C (Kd.slice 35 (Kd.slice 37 (Kd.int .u32))) w A2 l2.length l2) (hc2 : l2.length ≤ c2) (r : Int) (hr : r ≠ 0) (he1 : ideal_check.f k l0 l1 l2 sh gv = some 0) (he2 : ideal_check.f k l9 l1 l2 sh gv = some r) :
    Calls Tryd.prog 16 #[.slice A0 l0.length c0, .slice A9 l9.length c9, .agg #[.slice A1 l1.length c1, .slice A2 l2.length c2], .int .u64 sh, .int .u64 gv] w fun e w' => e = .returned (.tuple #[.agg #[.slice none 0 0, .slice none 0 0], .int .i64 r]) ∧ Below w.heap.size w w' := by
  have hu25 := Tryd.underlying25
  have hu49 := Tryd.underlying49
  have hu54 := Tryd.underlying54
  have HR0 := Aside0.mk hr0
  have HC0 := Aside0.mk hc0
  have HR9 := Aside0.mk hr9
  have HC9 := Aside0.mk hc9
  have HR1 := Aside0.mk hr1
  have HC1 := Aside0.mk hc1
  have HR2 := Aside0.mk hr2
  have HC2 := Aside0.mk hc2
  have HE1 := Aside0.mk he1
  have HE2 := Aside0.mk he2
  have e1 : (r != 0) = true := bne_iff_ne.2 hr
  have e2 : (r == 0) = false := beq_eq_false_iff_ne.2 hr
  clear hr he1 he2
  clear hr0 hc0 hr9 hc9 hr1 hc1 hr2 hc2
  go_enter Tryd.func16, Tryd.ntmps16
  go_wp2_with (first | ((with_reducible refine gate_dst (N := 7) rfl ?_); refine box_event ?hg (N := 7) ?hd (cs := #[.slice A1 l1.length c1, .slice A2 l2.length c2]) (t := 25) ?hr ?_; (case hd => rfl); (case hg => rfl); (case hr => first | (go_simp; done) | (go_simp; rfl)); intro gm hg wa1 hbox hb; have H0 : Aside0 (Hq w [(gm, 25, #[.slice A1 l1.length c1, .slice A2 l2.length c2])] [] Lf0 wa1) := ⟨(Hq.none_ w).box (Nat.le_of_eq hg.symm) hbox hb (by decide)⟩; clear hb hbox hg) | ((with_reducible refine gate_dst (N := 10) rfl ?_); refine box_event ?hg (N := 10) ?hd (cs := #[.slice none 0 0, .slice none 0 0]) (t := 25) ?hr ?_; (case hd => rfl); (case hg => rfl); (case hr => first | (go_simp; done) | (go_simp; rfl)); intro gr hg wa2 hbox hb; have H1 : Aside0 (Hq w [(gm, 25, #[.slice A1 l1.length c1, .slice A2 l2.length c2]), (gr, 25, #[.slice none 0 0, .slice none 0 0])] [] Lf0 wa2) := ⟨H0.out.box (Nat.le_of_eq hg.symm) hbox hb (by decide)⟩; clear hb hbox hg; obtain ⟨y0, y1, y2, y3⟩ := cells2 (H1.out.get 0 rfl)) | ((with_reducible refine gate_dst (N := 26) rfl ?_); refine box_event ?hg (N := 26) ?hd (cs := #[.slice A0 l0.length c0, .slice A1 l1.length c1, .slice A2 l2.length c2, .int .u64 sh, .int .u64 gv]) (t := 49) ?hr ?_; (case hd => rfl); (case hg => rfl); (case hr => first | (go_simp; done) | (go_simp; rfl)); intro gs hg wa3 hbox hb; have H2 : Aside0 (Hq w [(gm, 25, #[.slice A1 l1.length c1, .slice A2 l2.length c2]), (gr, 25, #[.slice none 0 0, .slice none 0 0]), (gs, 49, #[.slice A0 l0.length c0, .slice A1 l1.length c1, .slice A2 l2.length c2, .int .u64 sh, .int .u64 gv])] [] Lf0 wa3) := ⟨H1.out.box (Nat.le_of_eq hg.symm) hbox hb (by decide)⟩; clear hb hbox hg y0 y1 y2 y3; obtain ⟨y0, y1, y2, y3⟩ := cells2 (H2.out.get 0 rfl)) | ((with_reducible refine gate_dst (N := 32) rfl ?_); refine box_event ?hg (N := 32) ?hd (cs := #[.slice A9 l9.length c9, .slice A1 l1.length c1, .slice A2 l2.length c2, .int .u64 sh, .int .u64 gv]) (t := 49) ?hr ?_; (case hd => rfl); (case hg => rfl); (case hr => first | (go_simp; done) | (go_simp; rfl)); intro gt hg wa4 hbox hb; have H3 : Aside0 (Hq w [(gm, 25, #[.slice A1 l1.length c1, .slice A2 l2.length c2]), (gr, 25, #[.slice none 0 0, .slice none 0 0]), (gs, 49, #[.slice A0 l0.length c0, .slice A1 l1.length c1, .slice A2 l2.length c2, .int .u64 sh, .int .u64 gv]), (gt, 49, #[.slice A9 l9.length c9, .slice A1 l1.length c1, .slice A2 l2.length c2, .int .u64 sh, .int .u64 gv])] [] Lf0 wa4) := ⟨H2.out.box (Nat.le_of_eq hg.symm) hbox hb (by decide)⟩; clear hb hbox hg y0 y1 y2 y3) | ((with_reducible refine gate_dst (N := 33) rfl ?_); refine row_event ?hg (n := 2) (cs := #[.pointer (some ⟨gs, 0, none⟩), .pointer (some ⟨gt, 0, none⟩)]) (t := 47) ?hr ?_; (case hg => rfl); (case hr => first | (go_simp; done) | (go_simp; rfl)); intro gp hg wa5 hbox hb; have H4 : Aside0 (Hq w [(gm, 25, #[.slice A1 l1.length c1, .slice A2 l2.length c2]), (gr, 25, #[.slice none 0 0, .slice none 0 0]), (gs, 49, #[.slice A0 l0.length c0, .slice A1 l1.length c1, .slice A2 l2.length c2, .int .u64 sh, .int .u64 gv]), (gt, 49, #[.slice A9 l9.length c9, .slice A1 l1.length c1, .slice A2 l2.length c2, .int .u64 sh, .int .u64 gv]), (gp, 47, #[.pointer (some ⟨gs, 0, none⟩), .pointer (some ⟨gt, 0, none⟩)])] [] Lf0 wa5) := ⟨H3.out.box hg hbox hb (by decide)⟩; clear hg hbox hb H0 H1 H2 H3; obtain ⟨y0, y1, y2, y3⟩ := cells2 (H4.out.get 4 rfl)))
  refine wp_loop_rounds 2 ?_
  rw [rounds_succ]
  go_wp2_with (first | (go_at_call 21; (with_reducible refine (check_w k wa5 gs A0 c0 l0 A1 c1 l1 A2 c2 l2 sh gv (H4.out.get 2 rfl) (Kd.C_below HR0.out H4.out.hb) HC0.out (Kd.C_below HR1.out H4.out.hb) HC1.out (Kd.C_below HR2.out H4.out.hb) HC2.out 0 HE1.out).mono ?_); rintro e wb1 ⟨rfl, hb⟩; have H5 := Aside0.mk (H4.out.below hb); clear hb H4 y0 y1 y2 y3; obtain ⟨y0, y1, y2, y3⟩ := cells2 (H5.out.get 4 rfl)))
  rw [rounds_succ]
  go_wp2_with (first | (go_at_call 21; (with_reducible refine (check_w k wb1 gt A9 c9 l9 A1 c1 l1 A2 c2 l2 sh gv (H5.out.get 3 rfl) (Kd.C_below HR9.out H5.out.hb) HC9.out (Kd.C_below HR1.out H5.out.hb) HC1.out (Kd.C_below HR2.out H5.out.hb) HC2.out r HE2.out).mono ?_); rintro e wb2 ⟨rfl, hb⟩; have H6 := Aside0.mk (H5.out.below hb); clear hb H5 y0 y1 y2 y3; obtain ⟨x0, x1, z0, z1⟩ := cells2 (H6.out.get 1 rfl)))
  have HF := (H6.out.put 1 rfl 0 (.slice none 0 0) rfl).put 1 rfl 1 (.slice none 0 0) rfl
  refine bodyPost_ret (results_ct rfl _ _ gr 25 #[.slice none 0 0, .slice none 0 0] (0, 0) _ rfl (HF.get 1 rfl) Tryd.underlying25 rfl (by kernel_rfl)) rfl ?_
  exact ⟨by first | rfl | (simp; done), HF.hb⟩
set_option maxHeartbeats 16000000 in
set_option maxRecDepth 100000 in
theorem turn_w (k : Nat) (w : World) (ad0 : Addr) (c0 : Nat) (l0 : List (List Int)) (ad9 : Addr) (c9 : Nat) (l9 : List (List Int)) (ad1 : Addr) (c1 : Nat) (l1 : List (List Int)) (ad2 : Addr) (c2 : Nat) (l2 : List (List (List Int))) (sh gv : Int)
    (hr0 : Kd.C (Kd.slice 37 (Kd.int .u32)) w (some ad0) l0.length l0) (hc0 : l0.length ≤ c0) (hr9 : Kd.C (Kd.slice 37 (Kd.int .u32)) w (some ad9) l9.length l9) (hc9 : l9.length ≤ c9) (hr1 : Kd.C (Kd.slice 37 (Kd.int .u32)) w (some ad1) l1.length l1) (hc1 : l1.length ≤ c1) (hr2 : Kd.C (Kd.slice 35 (Kd.slice 37 (Kd.int .u32))) w (some ad2) l2.length l2) (hc2 : l2.length ≤ c2)
    (hn : l0.length ≤ 1000) (hp : 0 < l0.length) (h9 : l9.length = l0.length) (hl1 : l1.length = l0.length) (hl2 : l2.length = l0.length) (hl3 : ∀ i : Nat, i < l0.length → (rdM l2 (i : Int)).length = l0.length) (hb1 : ∀ i : Nat, i < l0.length → (rdV l1 (i : Int)).length ≤ 1000000) (hb3 : ∀ i j : Nat, i < l0.length → j < l0.length → (rdV (rdM l2 (i : Int)) (j : Int)).length ≤ 1000000) (hrn : (rdV l0 0).length ≤ 1000000)
    (he1 : ideal_check.f k l0 l1 l2 sh gv = some 0) (he2 : ideal_check.f k l9 l1 l2 sh gv = some 0) (o : List (List Int)) (p : List (List (List Int))) (r : List Int) (hS : turnS k l0 l9 sh gv l0.length 0 l1 l2 (List.replicate (rdV l0 0).length 0) (-1) = some (o, p, r)) (cb : Bool) (hC : slices_ContainsFunc_uint32_uint32_28_f29.f k r 0 = some cb) (r1 : List (List Int)) (r2 : List (List (List Int))) (r3 : Int) (hz : (if cb = true then (([] : List (List Int)), ([] : List (List (List Int))), (11 : Int)) else (o, p, 0)) = (r1, r2, r3)) :
    Calls Tryd.prog 16 #[.slice (some ad0) l0.length c0, .slice (some ad9) l9.length c9, .agg #[.slice (some ad1) l1.length c1, .slice (some ad2) l2.length c2], .int .u64 sh, .int .u64 gv] w fun e w' => ∃ v0_ v1_ : Value, e = .returned (.tuple #[.agg #[v0_, v1_], .int .i64 r3]) ∧ Kd.R (Kd.slice 37 (Kd.int .u32)) 35 w' w.heap.size (fun _ => True) v0_ r1 ∧ Kd.R (Kd.slice 35 (Kd.slice 37 (Kd.int .u32))) 22 w' w.heap.size (fun k_ => some k_ ≠ (v0_ : Value).ownBlock) v1_ r2 ∧ Below w.heap.size w w' := by
  have hu25 := Tryd.underlying25
  have hu49 := Tryd.underlying49
  have hu54 := Tryd.underlying54
  have HR0 := Aside0.mk hr0
  have HC0 := Aside0.mk hc0
  have HR9 := Aside0.mk hr9
  have HC9 := Aside0.mk hc9
  have HR1 := Aside0.mk hr1
  have HC1 := Aside0.mk hc1
  have HR2 := Aside0.mk hr2
  have HC2 := Aside0.mk hc2
  have HE1 := Aside0.mk he1
  have HE2 := Aside0.mk he2
  have NN := Aside0.mk hn
  have H9L := Aside0.mk h9
  have HL1 := Aside0.mk hl1
  have HL2 := Aside0.mk hl2
  have HL3 := Aside0.mk hl3
  have HB1 := Aside0.mk hb1
  have HB3 := Aside0.mk hb3
  have HRN := Aside0.mk hrn
  have HPOS := Aside0.mk hp
  have HSS := Aside0.mk hS
  have HCC := Aside0.mk hC
  have HZ := Aside0.mk hz
  obtain ⟨_, Af, cf, ef, hf0, hfl, hfr⟩ := at_V hr0 0 (Int.le_refl 0) (by omega)
  cases ef
  have HF0 : Aside0 (w.cell? ad0 = some (.slice Af (rdV l0 0).length cf)) := ⟨by simpa [Addr.add] using hf0⟩
  have dp : decide (0 < l0.length) = true := decide_eq_true hp
  have dq : (0 < l0.length) = True := eq_true hp
  have dr : decide ((0 : Int) < (l0.length : Int)) = true := decide_eq_true (by omega)
  have mk35 := make35 (rdV l0 0).length hrn
  clear he1 he2 hn h9 hl1 hl2 hl3 hb1 hb3 hrn hp hS hC hz hf0 hfl hfr
  clear hr0 hc0 hr9 hc9 hr1 hc1 hr2 hc2
  go_enter Tryd.func16, Tryd.ntmps16
  go_wp2_with (first | ((with_reducible refine gate_dst (N := 7) rfl ?_); refine box_event ?hg (N := 7) ?hd (cs := #[.slice (some ad1) l1.length c1, .slice (some ad2) l2.length c2]) (t := 25) ?hr ?_; (case hd => rfl); (case hg => rfl); (case hr => first | (go_simp; done) | (go_simp; rfl)); intro gm hg wa1 hbox hb; have H0 : Aside0 (Hq w [(gm, 25, #[.slice (some ad1) l1.length c1, .slice (some ad2) l2.length c2])] [] Lf0 wa1) := ⟨(Hq.none_ w).box (Nat.le_of_eq hg.symm) hbox hb (by decide)⟩; clear hb hbox hg) | ((with_reducible refine gate_dst (N := 10) rfl ?_); refine box_event ?hg (N := 10) ?hd (cs := #[.slice none 0 0, .slice none 0 0]) (t := 25) ?hr ?_; (case hd => rfl); (case hg => rfl); (case hr => first | (go_simp; done) | (go_simp; rfl)); intro gr hg wa2 hbox hb; have H1 : Aside0 (Hq w [(gm, 25, #[.slice (some ad1) l1.length c1, .slice (some ad2) l2.length c2]), (gr, 25, #[.slice none 0 0, .slice none 0 0])] [] Lf0 wa2) := ⟨H0.out.box (Nat.le_of_eq hg.symm) hbox hb (by decide)⟩; clear hb hbox hg; obtain ⟨y0, y1, y2, y3⟩ := cells2 (H1.out.get 0 rfl)) | ((with_reducible refine gate_dst (N := 26) rfl ?_); refine box_event ?hg (N := 26) ?hd (cs := #[.slice (some ad0) l0.length c0, .slice (some ad1) l1.length c1, .slice (some ad2) l2.length c2, .int .u64 sh, .int .u64 gv]) (t := 49) ?hr ?_; (case hd => rfl); (case hg => rfl); (case hr => first | (go_simp; done) | (go_simp; rfl)); intro gs hg wa3 hbox hb; have H2 : Aside0 (Hq w [(gm, 25, #[.slice (some ad1) l1.length c1, .slice (some ad2) l2.length c2]), (gr, 25, #[.slice none 0 0, .slice none 0 0]), (gs, 49, #[.slice (some ad0) l0.length c0, .slice (some ad1) l1.length c1, .slice (some ad2) l2.length c2, .int .u64 sh, .int .u64 gv])] [] Lf0 wa3) := ⟨H1.out.box (Nat.le_of_eq hg.symm) hbox hb (by decide)⟩; clear hb hbox hg y0 y1 y2 y3; obtain ⟨y0, y1, y2, y3⟩ := cells2 (H2.out.get 0 rfl)) | ((with_reducible refine gate_dst (N := 32) rfl ?_); refine box_event ?hg (N := 32) ?hd (cs := #[.slice (some ad9) l9.length c9, .slice (some ad1) l1.length c1, .slice (some ad2) l2.length c2, .int .u64 sh, .int .u64 gv]) (t := 49) ?hr ?_; (case hd => rfl); (case hg => rfl); (case hr => first | (go_simp; done) | (go_simp; rfl)); intro gt hg wa4 hbox hb; have H3 : Aside0 (Hq w [(gm, 25, #[.slice (some ad1) l1.length c1, .slice (some ad2) l2.length c2]), (gr, 25, #[.slice none 0 0, .slice none 0 0]), (gs, 49, #[.slice (some ad0) l0.length c0, .slice (some ad1) l1.length c1, .slice (some ad2) l2.length c2, .int .u64 sh, .int .u64 gv]), (gt, 49, #[.slice (some ad9) l9.length c9, .slice (some ad1) l1.length c1, .slice (some ad2) l2.length c2, .int .u64 sh, .int .u64 gv])] [] Lf0 wa4) := ⟨H2.out.box (Nat.le_of_eq hg.symm) hbox hb (by decide)⟩; clear hb hbox hg y0 y1 y2 y3) | ((with_reducible refine gate_dst (N := 33) rfl ?_); refine row_event ?hg (n := 2) (cs := #[.pointer (some ⟨gs, 0, none⟩), .pointer (some ⟨gt, 0, none⟩)]) (t := 47) ?hr ?_; (case hg => rfl); (case hr => first | (go_simp; done) | (go_simp; rfl)); intro gp hg wa5 hbox hb; have H4 : Aside0 (Hq w [(gm, 25, #[.slice (some ad1) l1.length c1, .slice (some ad2) l2.length c2]), (gr, 25, #[.slice none 0 0, .slice none 0 0]), (gs, 49, #[.slice (some ad0) l0.length c0, .slice (some ad1) l1.length c1, .slice (some ad2) l2.length c2, .int .u64 sh, .int .u64 gv]), (gt, 49, #[.slice (some ad9) l9.length c9, .slice (some ad1) l1.length c1, .slice (some ad2) l2.length c2, .int .u64 sh, .int .u64 gv]), (gp, 47, #[.pointer (some ⟨gs, 0, none⟩), .pointer (some ⟨gt, 0, none⟩)])] [] Lf0 wa5) := ⟨H3.out.box hg hbox hb (by decide)⟩; clear hg hbox hb H0 H1 H2 H3; obtain ⟨y0, y1, y2, y3⟩ := cells2 (H4.out.get 4 rfl)))
  refine wp_loop_rounds 3 ?_
  rw [rounds_succ]
  go_wp2_with (first | (go_at_call 21; (with_reducible refine (check_w k wa5 gs (some ad0) c0 l0 (some ad1) c1 l1 (some ad2) c2 l2 sh gv (H4.out.get 2 rfl) (Kd.C_below HR0.out H4.out.hb) HC0.out (Kd.C_below HR1.out H4.out.hb) HC1.out (Kd.C_below HR2.out H4.out.hb) HC2.out 0 HE1.out).mono ?_); rintro e wb1 ⟨rfl, hb⟩; have H5 := Aside0.mk (H4.out.below hb); clear hb H4 y0 y1 y2 y3; obtain ⟨y0, y1, y2, y3⟩ := cells2 (H5.out.get 4 rfl)))
  rw [rounds_succ]
  go_wp2_with (first | (go_at_call 21; (with_reducible refine (check_w k wb1 gt (some ad9) c9 l9 (some ad1) c1 l1 (some ad2) c2 l2 sh gv (H5.out.get 3 rfl) (Kd.C_below HR9.out H5.out.hb) HC9.out (Kd.C_below HR1.out H5.out.hb) HC1.out (Kd.C_below HR2.out H5.out.hb) HC2.out 0 HE2.out).mono ?_); rintro e wb2 ⟨rfl, hb⟩; have H6 := Aside0.mk (H5.out.below hb); clear hb H5 y0 y1 y2 y3; obtain ⟨y0, y1, y2, y3⟩ := cells2 (H6.out.get 0 rfl)))
  rw [rounds_succ]
  go_upto_region 9 with (first | (go_at_call 25; (with_reducible refine (own_c wb2 l0.length ad1 c1 l1 ad2 c2 l2 (Kd.C_below HR1.out H6.out.hb) HC1.out (Kd.C_below HR2.out H6.out.hb) HC2.out HPOS.out HL1.out HL2.out (by have := NN.out; omega) HB1.out HL3.out HB3.out).mono ?_); rintro e wc2 ⟨g0, g1, cv, cw, cs0, cs1, mids, Lf, rfl, HO, hv0, hv1⟩; have H7 := Aside0.mk (H6.out.join HO); have HV0 := Aside0.mk hv0; have HV1 := Aside0.mk hv1; clear HO hv0 hv1 H6 y0 y1 y2 y3) | ((with_reducible refine gate_dst (N := 15) rfl ?_); refine box_event ?hg (N := 15) ?hd (cs := #[.slice none 0 0, .slice none 0 0]) (t := 25) ?hr ?_; (case hd => rfl); (case hg => rfl); (case hr => first | (go_simp; done) | (go_simp; rfl)); intro go hg w7 hbox hb; have H8 : Aside0 (Hq w [(gm, 25, #[.slice (some ad1) l1.length c1, .slice (some ad2) l2.length c2]), (gr, 25, #[.slice none 0 0, .slice none 0 0]), (gs, 49, #[.slice (some ad0) l0.length c0, .slice (some ad1) l1.length c1, .slice (some ad2) l2.length c2, .int .u64 sh, .int .u64 gv]), (gt, 49, #[.slice (some ad9) l9.length c9, .slice (some ad1) l1.length c1, .slice (some ad2) l2.length c2, .int .u64 sh, .int .u64 gv]), (gp, 47, #[.pointer (some ⟨gs, 0, none⟩), .pointer (some ⟨gt, 0, none⟩)]), (go, 25, #[.slice none 0 0, .slice none 0 0])] ((35, .slice (some ⟨g0, 0, none⟩) l0.length cv, cs0) :: (22, .slice (some ⟨g1, 0, none⟩) l0.length cw, cs1) :: mids) Lf w7) := ⟨H7.out.box (Nat.le_of_eq hg.symm) hbox hb (by decide)⟩; clear hb hbox hg H7; obtain ⟨y0, y1, z0, z1⟩ := cells2 (H8.out.get 5 rfl)))
  refine code_gen (fun W => Hq w [(gm, 25, #[.slice (some ad1) l1.length c1, .slice (some ad2) l2.length c2]), (gr, 25, #[.slice none 0 0, .slice none 0 0]), (gs, 49, #[.slice (some ad0) l0.length c0, .slice (some ad1) l1.length c1, .slice (some ad2) l2.length c2, .int .u64 sh, .int .u64 gv]), (gt, 49, #[.slice (some ad9) l9.length c9, .slice (some ad1) l1.length c1, .slice (some ad2) l2.length c2, .int .u64 sh, .int .u64 gv]), (gp, 47, #[.pointer (some ⟨gs, 0, none⟩), .pointer (some ⟨gt, 0, none⟩)]), (go, 25, #[.slice (some ⟨g0, 0, none⟩) l0.length cv, .slice (some ⟨g1, 0, none⟩) l0.length cw])] ((35, .slice (some ⟨g0, 0, none⟩) l0.length cv, cs0) :: (22, .slice (some ⟨g1, 0, none⟩) l0.length cw, cs1) :: mids) Lf W) ((H8.out.put 5 rfl 0 (.slice (some ⟨g0, 0, none⟩) l0.length cv) rfl).put 5 rfl 1 (.slice (some ⟨g1, 0, none⟩) l0.length cw) rfl) ?_
  clear H8 y0 y1 z0 z1
  intro w8 hL
  have H9 := Aside0.mk hL
  clear hL
  have hf := pw_cell_below H9.out.hb HF0.out
  go_wp2_with (first | ((with_reducible refine gate_dst (N := 52) rfl ?_); refine row_event ?hg (n := (rdV l0 0).length) (cs := ((List.replicate (rdV l0 0).length (0 : Int)).map (Value.int .u32)).toArray) (t := 37) ?hr ?_; (case hg => rfl); (case hr => first | (go_simp; done) | (go_simp; rfl)); intro gz hg w9 hbox hb; have H11 := Aside0.mk (H9.out.made hb (row_blkZ hbox hg HRN.out)); clear hg hbox hb hf H9))
  clear dp dq dr mk35
  go_loopg [55, 16, 17] l0.length (fun kq v55 v16 v17 w' => ∃ (i : Nat) (Ar : Option Addr) (cr : Nat) (run : List Int) (last : Int) (own : List (List Int)) (pair : List (List (List Int))) (cs0 cs1 : List Value) (mids : List Rw) (Lf : Value → List Int → Prop), v55 = .int .i64 (i : Int) ∧ v16 = .slice Ar run.length cr ∧ v17 = .int .i64 last ∧ Aside0 (i + kq = l0.length) ∧ Aside0 (Hq w [(gm, 25, #[.slice (some ad1) l1.length c1, .slice (some ad2) l2.length c2]), (gr, 25, #[.slice none 0 0, .slice none 0 0]), (gs, 49, #[.slice (some ad0) l0.length c0, .slice (some ad1) l1.length c1, .slice (some ad2) l2.length c2, .int .u64 sh, .int .u64 gv]), (gt, 49, #[.slice (some ad9) l9.length c9, .slice (some ad1) l1.length c1, .slice (some ad2) l2.length c2, .int .u64 sh, .int .u64 gv]), (gp, 47, #[.pointer (some ⟨gs, 0, none⟩), .pointer (some ⟨gt, 0, none⟩)]), (go, 25, #[.slice (some ⟨g0, 0, none⟩) l0.length cv, .slice (some ⟨g1, 0, none⟩) l0.length cw])] ((35, .slice (some ⟨g0, 0, none⟩) l0.length cv, cs0) :: (22, .slice (some ⟨g1, 0, none⟩) l0.length cw, cs1) :: mids) Lf w') ∧ Aside0 (Lf (.slice Ar run.length cr) run) ∧ Aside0 (RV Lf cs0 own ∧ own.length = l0.length) ∧ Aside0 (RMX mids Lf cs1 pair ∧ pair.length = l0.length ∧ ∀ j : Nat, j < l0.length → (rdM pair (j : Int)).length = l0.length) ∧ Aside0 (-1 ≤ last ∧ last < i) ∧ Aside0 (turnS k l0 l9 sh gv kq i own pair run last = some (o, p, r)))
  case atStart => exact ⟨0, _, _, List.replicate (rdV l0 0).length 0, -1, l1, l2, cs0, cs1, mids, _, rfl, by first | rfl | (rw [List.length_replicate]), rfl, ⟨Nat.zero_add _⟩, H11, ⟨Or.inr ⟨by rw [List.length_replicate], rfl⟩⟩, ⟨HV0.out.add _ _, HL1.out⟩, ⟨HV1.out.lf (fun _ _ h => Or.inl h), HL2.out, HL3.out⟩, ⟨by omega⟩, HSS⟩
  case round =>
    clear H11 HV0 HV1 HSS
    obtain ⟨i, Ar, cr, run, last, own, pair, cs0, cs1, mids, Lf, rfl, rfl, rfl, HI, H6, HLR, HVO, HVP, HLA, HSS⟩ := hrel
    have hi := HI.out
    cases gk with
    | zero =>
      obtain rfl : i = l0.length := by omega
      have d1 : decide ((l0.length : Int) < (l0.length : Int)) = false := decide_eq_false (by omega)
      have hs := HSS.out
      unfold turnS at hs
      simp only [Option.some.injEq, Prod.mk.injEq] at hs
      obtain ⟨rfl, rfl, rfl⟩ := hs
      clear hi HSS
      have hz := HZ.out
      cases cb
      · rw [if_neg (by decide)] at hz
        simp only [Prod.mk.injEq] at hz
        obtain ⟨rfl, rfl, rfl⟩ := hz
        go_wp2_with (first | (go_at_call 28; (with_reducible refine (slices_ContainsFunc_uint32_uint32_28_f29.calls k Ar cr run 0 _ wr (Kd.R_reads' (H6.out.leaf _ _ HLR.out)).2.2 (Kd.R_reads' (H6.out.leaf _ _ HLR.out)).2.1 HCC.out).mono ?_); rintro e w5 ⟨rfl, hd⟩; have H7 := Aside0.mk (H6.out.below (below_drawn hd)); clear hd; obtain ⟨y0, y1, y2, y3⟩ := cells2 (H7.out.get 5 rfl); obtain ⟨x0, x1, z0, z1⟩ := cells2 (H7.out.get 1 rfl)))
        have HF := (H7.out.put 1 rfl 0 (.slice (some ⟨g0, 0, none⟩) l0.length cv) rfl).put 1 rfl 1 (.slice (some ⟨g1, 0, none⟩) l0.length cw) rfl
        refine bodyPost_ret (results_ct rfl _ _ gr 25 #[.slice (some ⟨g0, 0, none⟩) l0.length cv, .slice (some ⟨g1, 0, none⟩) l0.length cw] (0, 0) _ rfl (HF.get 1 rfl) Tryd.underlying25 rfl (by kernel_rfl)) rfl ?_
        exact ⟨.slice (some ⟨g0, 0, none⟩) l0.length cv, .slice (some ⟨g1, 0, none⟩) l0.length cw, by first | rfl | (simp; done), Kd.R_mono (HF.r2 0 rfl HVO.out.1) (fun _ _ => trivial), HF.r3m 1 rfl 2 (fun j r h => by simpa using h) HVP.out.1.rm _ (fun k hk e => HF.rnd 1 0 _ _ k rfl rfl (by decide) hk e.symm) (fun j r k hj hk e => HF.rnd (j + 2) 0 r _ k (by simpa using hj) rfl (by omega) hk e.symm) (fun k c hc => HF.far37 0 rfl hc), HF.hb⟩
      · rw [if_pos rfl] at hz
        simp only [Prod.mk.injEq] at hz
        obtain ⟨rfl, rfl, rfl⟩ := hz
        go_wp2_with (first | (go_at_call 28; (with_reducible refine (slices_ContainsFunc_uint32_uint32_28_f29.calls k Ar cr run 0 _ wr (Kd.R_reads' (H6.out.leaf _ _ HLR.out)).2.2 (Kd.R_reads' (H6.out.leaf _ _ HLR.out)).2.1 HCC.out).mono ?_); rintro e w5 ⟨rfl, hd⟩; have H7 := Aside0.mk (H6.out.below (below_drawn hd)); clear hd; obtain ⟨y0, y1, y2, y3⟩ := cells2 (H7.out.get 5 rfl); obtain ⟨x0, x1, z0, z1⟩ := cells2 (H7.out.get 1 rfl)))
        have HF := (H7.out.put 1 rfl 0 (.slice none 0 0) rfl).put 1 rfl 1 (.slice none 0 0) rfl
        refine bodyPost_ret (results_ct rfl _ _ gr 25 #[.slice none 0 0, .slice none 0 0] (0, 0) _ rfl (HF.get 1 rfl) Tryd.underlying25 rfl (by kernel_rfl)) rfl ?_
        exact ⟨.slice none 0 0, .slice none 0 0, by first | rfl | (simp; done), Kd.R_nil _ _ _ _ _, Kd.R_nil _ _ _ _ _, HF.hb⟩
    | succ k1 =>
      have hlt : i < l0.length := by omega
      have hnn := NN.out
      have p1 : 0 ≤ (i : Int) := by omega
      have q1 : (i : Int) < (l0.length : Int) := by omega
      have q2 : (i : Int) < (l9.length : Int) := by have := H9L.out; omega
      have d1 : decide ((i : Int) < (l0.length : Int)) = true := decide_eq_true q1
      have d2 : decide (i < l0.length) = true := decide_eq_true hlt
      have EW : Aside0 (wrap64 ((i : Int) + 1) = ((i + 1 : Nat) : Int)) := ⟨by unfold wrap64; omega⟩
      obtain ⟨i1, ei1⟩ : ∃ x, x = (i : Int) + 1 := ⟨_, rfl⟩
      have hw1 : wrap64 ((i : Int) + 1) = i1 := by unfold wrap64; omega
      have EI := Aside0.mk ei1
      obtain ⟨_, Ap, cp, ep, hx0, hxl, hxr⟩ := at_V HR0.out (i : Int) p1 q1
      cases ep
      rw [Int.toNat_natCast] at hx0
      have HX := Aside0.mk (And.intro hx0 (And.intro hxl hxr))
      obtain ⟨_, Aq, cq, eq, hy0, hyl, hyr⟩ := at_V HR9.out (i : Int) p1 q2
      cases eq
      rw [Int.toNat_natCast] at hy0
      have HY := Aside0.mk (And.intro hy0 (And.intro hyl hyr))
      have hs := HSS.out
      unfold turnS at hs
      rw [← ei1] at hs
      obtain ⟨⟨d, de⟩, hd, hs⟩ := Option.bind_eq_some_iff.mp hs
      have HSUB := Aside0.mk hd
      obtain ⟨bg, hbg, hs⟩ := Option.bind_eq_some_iff.mp hs
      have HBG := Aside0.mk hbg
      have HS2 := Aside0.mk hs
      have LT := Aside0.mk hlt
      replace p1 := eq_true p1
      replace q1 := eq_true q1
      replace q2 := eq_true q2
      clear hi hlt hnn ei1 hx0 hxl hxr hy0 hyl hyr hs hd hbg HSS
      go_wp2_with fail
      obtain ⟨wd, ewd⟩ : ∃ x, x = wr.drew := ⟨_, rfl⟩
      have HD : Aside0 (Hq w [(gm, 25, #[.slice (some ad1) l1.length c1, .slice (some ad2) l2.length c2]), (gr, 25, #[.slice none 0 0, .slice none 0 0]), (gs, 49, #[.slice (some ad0) l0.length c0, .slice (some ad1) l1.length c1, .slice (some ad2) l2.length c2, .int .u64 sh, .int .u64 gv]), (gt, 49, #[.slice (some ad9) l9.length c9, .slice (some ad1) l1.length c1, .slice (some ad2) l2.length c2, .int .u64 sh, .int .u64 gv]), (gp, 47, #[.pointer (some ⟨gs, 0, none⟩), .pointer (some ⟨gt, 0, none⟩)]), (go, 25, #[.slice (some ⟨g0, 0, none⟩) l0.length cv, .slice (some ⟨g1, 0, none⟩) l0.length cw])] ((35, .slice (some ⟨g0, 0, none⟩) l0.length cv, cs0) :: (22, .slice (some ⟨g1, 0, none⟩) l0.length cw, cs1) :: mids) Lf wd) := ⟨by rw [ewd]; exact H6.out.drew⟩
      clear H6
      refine start_ (n := 14) (S := fun w' => w'.cell? (ad0.add i) = some (.slice Ap (rdV l0 (i : Int)).length cp) ∧ w'.cell? (ad9.add i) = some (.slice Aq (rdV l9 (i : Int)).length cq)) (ds := [8]) #[false, false, false, false, false, false, false, false, false, false, false, false, false, false] (by kernel_rfl) rfl rfl (by rw [← ewd]; exact ⟨pw_cell_below HD.out.hb HX.out.1, pw_cell_below HD.out.hb HY.out.1⟩) (fun hHeld => ?_)
      rw [← ewd] at hHeld ⊢
      clear ewd
      refine pure_ (i := 0) (N := some 59) (v := ?_) (a' := ?_) #[true, false, false, false, false, false, false, false, false, false, false, false, false, false] rfl rfl (by kernel_rfl) (fun _ _ _ h => h) (Or.inl ⟨by rfl, ?_⟩) ?_ ?_
      rotate_left
      · intro w'
        go_simp
        with_reducible rfl
      rotate_left
      · simp only [Act.put, List.setIfInBounds_toArray, List.set_cons_zero, List.set_cons_succ, i64_w, i32_w]
        rfl
      refine pure_ (i := 1) (N := some 60) (v := ?_) (a' := ?_) #[true, true, false, false, false, false, false, false, false, false, false, false, false, false] rfl rfl (by kernel_rfl) (fun _ _ _ h => h) (Or.inl ⟨by rfl, ?_⟩) ?_ ?_
      rotate_left
      · intro w'
        go_simp
        with_reducible rfl
      rotate_left
      · simp only [Act.put, List.setIfInBounds_toArray, List.set_cons_zero, List.set_cons_succ, i64_w, i32_w]
        rfl
      refine pure_ (i := 2) (N := some 61) (v := ?_) (a' := ?_) #[true, true, true, false, false, false, false, false, false, false, false, false, false, false] rfl rfl (by kernel_rfl) (fun _ _ _ h => h) (Or.inl ⟨by rfl, ?_⟩) ?_ ?_
      rotate_left
      · intro w'
        go_simp
        with_reducible rfl
      rotate_left
      · simp only [Act.put, List.setIfInBounds_toArray, List.set_cons_zero, List.set_cons_succ, i64_w, i32_w]
        rfl
      refine pure_ (i := 4) (N := some 63) (v := ?_) (a' := ?_) #[true, true, true, false, true, false, false, false, false, false, false, false, false, false] rfl rfl (by kernel_rfl) (fun _ _ _ h => h) (Or.inl ⟨by rfl, ?_⟩) ?_ ?_
      rotate_left
      · intro w'
        go_simp
        with_reducible rfl
      rotate_left
      · simp only [Act.put, List.setIfInBounds_toArray, List.set_cons_zero, List.set_cons_succ, i64_w, i32_w]
        rfl
      refine pure_ (i := 5) (N := some 64) (v := ?_) (a' := ?_) #[true, true, true, false, true, true, false, false, false, false, false, false, false, false] rfl rfl (by kernel_rfl) (fun _ _ _ h => h) (Or.inl ⟨by rfl, ?_⟩) ?_ ?_
      rotate_left
      · intro w'
        go_simp
        with_reducible rfl
      rotate_left
      · simp only [Act.put, List.setIfInBounds_toArray, List.set_cons_zero, List.set_cons_succ, i64_w, i32_w]
        rfl
      refine pure_ (i := 6) (N := some 65) (v := ?_) (a' := ?_) #[true, true, true, false, true, true, true, false, false, false, false, false, false, false] rfl rfl (by kernel_rfl) (fun _ _ _ h => h) (Or.inl ⟨by rfl, ?_⟩) ?_ ?_
      rotate_left
      · intro w'
        go_simp
        with_reducible rfl
      rotate_left
      · simp only [Act.put, List.setIfInBounds_toArray, List.set_cons_zero, List.set_cons_succ, i64_w, i32_w]
        rfl
      refine take_ (i := 3) (N := some 62) (v := ?_) (a' := ?_) #[true, true, true, true, true, true, true, false, false, false, false, false, false, false] rfl rfl (by kernel_rfl) (fun _ _ _ h => h) (Or.inl ⟨by rfl, ?_⟩) hHeld ?_ ?_
      rotate_left
      · rintro w' ⟨s0, s1⟩
        go_simp
        with_reducible rfl
      rotate_left
      · simp only [Act.put, List.setIfInBounds_toArray, List.set_cons_zero, List.set_cons_succ, i64_w, i32_w]
        rfl
      refine take_ (i := 7) (N := some 66) (v := ?_) (a' := ?_) #[true, true, true, true, true, true, true, true, false, false, false, false, false, false] rfl rfl (by kernel_rfl) (fun _ _ _ h => h) (Or.inl ⟨by rfl, ?_⟩) hHeld ?_ ?_
      rotate_left
      · rintro w' ⟨s0, s1⟩
        go_simp
        with_reducible rfl
      rotate_left
      · simp only [Act.put, List.setIfInBounds_toArray, List.set_cons_zero, List.set_cons_succ, i64_w, i32_w]
        rfl
      refine last_ (i := 8) (N := some 67) #[true, true, true, true, true, true, true, true, true, false, false, false, false, false] rfl rfl (by kernel_rfl) (by decide) (fun K hK => ?_)
      refine goes_ Tryd.func26 (by kernel_rfl) rfl #[.slice Ap (rdV l0 (i : Int)).length cp, .slice Aq (rdV l9 (i : Int)).length cq] (by rfl) rfl rfl (by (try simp only [List.map_toArray, List.map_cons, List.map_nil]); first | done | rfl) ?_
      with_reducible refine (ring_Sub.calls k Ap cp (rdV l0 (i : Int)) Aq cq (rdV l9 (i : Int)) d de wd (Kd.C_below HX.out.2.2 HD.out.hb) HX.out.2.1 (Kd.C_below HY.out.2.2 HD.out.hb) HY.out.2.1 HSUB.out).mono ?_
      rintro e w6 ⟨vd, rfl, hR, hb⟩
      obtain ⟨Ad, cd, rfl⟩ := Kd.R_slice hR
      have H8 := Aside0.mk (HD.out.made hb hR)
      clear hR hb
      refine ⟨_, rfl, ?_⟩
      refine hK.out _ _ ?_
      clear hK K
      refine norm_ (a' := ?_) ?_ ?_
      rotate_left
      · show Act.put _ (some 67) _ = _
        simp only [Act.put, List.setIfInBounds_toArray, List.set_cons_zero, List.set_cons_succ, i64_w, i32_w]
        rfl
      refine pure_ (i := 9) (N := some 58) (v := ?_) (a' := ?_) #[true, true, true, true, true, true, true, true, true, true, false, false, false, false] rfl rfl (by kernel_rfl) (fun _ _ _ h => h) (Or.inl ⟨by rfl, ?_⟩) ?_ ?_
      rotate_left
      · intro w'
        go_simp
        with_reducible rfl
      rotate_left
      · simp only [Act.put, List.setIfInBounds_toArray, List.set_cons_zero, List.set_cons_succ, i64_w, i32_w]
        rfl
      refine pure_ (i := 10) (N := some 68) (v := ?_) (a' := ?_) #[true, true, true, true, true, true, true, true, true, true, true, false, false, false] rfl rfl (by kernel_rfl) (fun _ _ _ h => h) (Or.inl ⟨by rfl, ?_⟩) ?_ ?_
      rotate_left
      · intro w'
        go_simp
        with_reducible rfl
      rotate_left
      · simp only [Act.put, List.setIfInBounds_toArray, List.set_cons_zero, List.set_cons_succ, i64_w, i32_w]
        rfl
      refine pure_ (i := 11) (N := some 69) (v := ?_) (a' := ?_) #[true, true, true, true, true, true, true, true, true, true, true, true, false, false] rfl rfl (by kernel_rfl) (fun _ _ _ h => h) (Or.inl ⟨by rfl, ?_⟩) ?_ ?_
      rotate_left
      · intro w'
        go_simp
        with_reducible rfl
      rotate_left
      · simp only [Act.put, List.setIfInBounds_toArray, List.set_cons_zero, List.set_cons_succ, i64_w, i32_w]
        rfl
      refine pure_ (i := 12) (N := some 19) (v := ?_) (a' := ?_) #[true, true, true, true, true, true, true, true, true, true, true, true, true, false] rfl rfl (by kernel_rfl) (fun _ _ _ h => h) (Or.inl ⟨by rfl, ?_⟩) ?_ ?_
      rotate_left
      · intro w'
        go_simp
        with_reducible rfl
      rotate_left
      · simp only [Act.put, List.setIfInBounds_toArray, List.set_cons_zero, List.set_cons_succ, i64_w, i32_w]
        rfl
      refine pure_ (i := 13) (N := some 20) (v := ?_) (a' := ?_) #[true, true, true, true, true, true, true, true, true, true, true, true, true, true] rfl rfl (by kernel_rfl) (fun _ _ _ h => h) (Or.inl ⟨by rfl, ?_⟩) ?_ ?_
      rotate_left
      · intro w'
        go_simp
        with_reducible rfl
      rotate_left
      · simp only [Act.put, List.setIfInBounds_toArray, List.set_cons_zero, List.set_cons_succ, i64_w, i32_w]
        rfl
      refine done_ (by kernel_rfl) ?_
      clear hHeld HD
      have HB := Aside0.mk (Below.refl w6.heap.size w6)
      have HD1 := Aside0.mk (show (LfA Lf (.slice Ad d.length cd) d) (.slice Ad d.length cd) d from Or.inr ⟨rfl, rfl⟩)
      have HR1 := Aside0.mk (show (LfA Lf (.slice Ad d.length cd) d) (.slice Ar run.length cr) run from Or.inl HLR.out)
      have hs := HS2.out
      cases bg
      · rw [if_neg (by decide)] at hs
        obtain ⟨bs, hbs, hs⟩ := Option.bind_eq_some_iff.mp hs
        have HBS := Aside0.mk hbs
        clear hbs
        cases bs
        · rw [if_neg (by decide)] at hs
          have HS3 := Aside0.mk hs
          clear hs HS2
          go_wp2_with (first | (go_at_call 22; (with_reducible refine (crowd_Has.calls gv i1 _ _ HBG.out).mono ?_); rintro e w5 ⟨rfl, hd⟩; have HB := Aside0.mk (below_step HB.out (below_drawn hd)); clear hd) | (go_at_call 22; (with_reducible refine (crowd_Has.calls sh i1 _ _ HBS.out).mono ?_); rintro e w5 ⟨rfl, hd⟩; have HB := Aside0.mk (below_step HB.out (below_drawn hd)); clear hd))
          go_roundg k1
          case measure => omega
          case rel => exact ⟨i + 1, Ar, cr, run, last, own, pair, cs0, cs1, mids, _, by first | rfl | (rw [EW.out]), rfl, rfl, ⟨by have := HI.out; omega⟩, ⟨H8.out.below HB.out⟩, ⟨Or.inl HLR.out⟩, ⟨HVO.out.1.add _ _, HVO.out.2⟩, ⟨HVP.out.1.lf (fun _ _ h => Or.inl h), HVP.out.2⟩, ⟨by have := HLA.out; omega⟩, HS3⟩
        · rw [if_pos rfl] at hs
          obtain ⟨⟨x, xe⟩, hx, hs⟩ := Option.bind_eq_some_iff.mp hs
          have HADD := Aside0.mk hx
          have HS3 := Aside0.mk hs
          obtain ⟨u, hu⟩ : ∃ u, cs0[i]? = some u := ⟨_, List.getElem?_eq_getElem (show i < cs0.length by rw [HVO.out.1.1, HVO.out.2]; exact LT.out)⟩
          have hlx := HVO.out.1.2 i u (rdV own (i : Int)) hu (rdV_get (by rw [HVO.out.2]; exact LT.out))
          obtain ⟨Ax, cx, rfl⟩ := Kd.R_slice (H8.out.leaf _ _ (Or.inl hlx))
          have HCU := Aside0.mk hu
          have HLX := Aside0.mk hlx
          have HX1 := Aside0.mk (show (LfA Lf (.slice Ad d.length cd) d) _ _ from Or.inl hlx)
          clear hs HS2 hx hu hlx
          go_wp2_with (first | (go_at_call 22; (with_reducible refine (crowd_Has.calls gv i1 _ _ HBG.out).mono ?_); rintro e w5 ⟨rfl, hd⟩; have HB := Aside0.mk (below_step HB.out (below_drawn hd)); clear hd) | (go_at_call 22; (with_reducible refine (crowd_Has.calls sh i1 _ _ HBS.out).mono ?_); rintro e w5 ⟨rfl, hd⟩; have HB := Aside0.mk (below_step HB.out (below_drawn hd)); clear hd))
          obtain ⟨wd, ewd⟩ : ∃ x, x = w5.drew := ⟨_, rfl⟩
          have HD : Aside0 (Hq w [(gm, 25, #[.slice (some ad1) l1.length c1, .slice (some ad2) l2.length c2]), (gr, 25, #[.slice none 0 0, .slice none 0 0]), (gs, 49, #[.slice (some ad0) l0.length c0, .slice (some ad1) l1.length c1, .slice (some ad2) l2.length c2, .int .u64 sh, .int .u64 gv]), (gt, 49, #[.slice (some ad9) l9.length c9, .slice (some ad1) l1.length c1, .slice (some ad2) l2.length c2, .int .u64 sh, .int .u64 gv]), (gp, 47, #[.pointer (some ⟨gs, 0, none⟩), .pointer (some ⟨gt, 0, none⟩)]), (go, 25, #[.slice (some ⟨g0, 0, none⟩) l0.length cv, .slice (some ⟨g1, 0, none⟩) l0.length cw])] ((35, .slice (some ⟨g0, 0, none⟩) l0.length cv, cs0) :: (22, .slice (some ⟨g1, 0, none⟩) l0.length cw, cs1) :: mids) (LfA Lf (.slice Ad d.length cd) d) wd) := ⟨by rw [ewd]; exact (H8.out.below HB.out).drew⟩
          refine start_ (n := 15) (S := fun w' => w'.cell? ⟨go, 0, none⟩ = some (.slice (some ⟨g0, 0, none⟩) l0.length cv) ∧ w'.cell? ⟨g0, i, none⟩ = some (.slice Ax (rdV own (i : Int)).length cx)) (ds := [14]) #[false, false, false, false, false, false, false, false, false, false, false, false, false, false, false] (by kernel_rfl) rfl rfl (by rw [← ewd]; exact ⟨(cells2 (HD.out.get 5 rfl)).1, (HD.out.cell 0 rfl i HCU.out).1⟩) (fun hHeld => ?_)
          rw [← ewd] at hHeld ⊢
          clear ewd
          refine pure_ (i := 0) (N := some 110) (v := ?_) (a' := ?_) #[true, false, false, false, false, false, false, false, false, false, false, false, false, false, false] rfl rfl (by kernel_rfl) (fun _ _ _ h => h) (Or.inl ⟨by rfl, ?_⟩) ?_ ?_
          rotate_left
          · intro w'
            go_simp
            with_reducible rfl
          rotate_left
          · simp only [Act.put, List.setIfInBounds_toArray, List.set_cons_zero, List.set_cons_succ, i64_w, i32_w]
            rfl
          refine pure_ (i := 2) (N := some 112) (v := ?_) (a' := ?_) #[true, false, true, false, false, false, false, false, false, false, false, false, false, false, false] rfl rfl (by kernel_rfl) (fun _ _ _ h => h) (Or.inl ⟨by rfl, ?_⟩) ?_ ?_
          rotate_left
          · intro w'
            go_simp
            with_reducible rfl
          rotate_left
          · simp only [Act.put, List.setIfInBounds_toArray, List.set_cons_zero, List.set_cons_succ, i64_w, i32_w]
            rfl
          refine pure_ (i := 3) (N := some 113) (v := ?_) (a' := ?_) #[true, false, true, true, false, false, false, false, false, false, false, false, false, false, false] rfl rfl (by kernel_rfl) (fun _ _ _ h => h) (Or.inl ⟨by rfl, ?_⟩) ?_ ?_
          rotate_left
          · intro w'
            go_simp
            with_reducible rfl
          rotate_left
          · simp only [Act.put, List.setIfInBounds_toArray, List.set_cons_zero, List.set_cons_succ, i64_w, i32_w]
            rfl
          refine pure_ (i := 5) (N := some 115) (v := ?_) (a' := ?_) #[true, false, true, true, false, true, false, false, false, false, false, false, false, false, false] rfl rfl (by kernel_rfl) (fun _ _ _ h => h) (Or.inl ⟨by rfl, ?_⟩) ?_ ?_
          rotate_left
          · intro w'
            go_simp
            with_reducible rfl
          rotate_left
          · simp only [Act.put, List.setIfInBounds_toArray, List.set_cons_zero, List.set_cons_succ, i64_w, i32_w]
            rfl
          refine pure_ (i := 8) (N := some 118) (v := ?_) (a' := ?_) #[true, false, true, true, false, true, false, false, true, false, false, false, false, false, false] rfl rfl (by kernel_rfl) (fun _ _ _ h => h) (Or.inl ⟨by rfl, ?_⟩) ?_ ?_
          rotate_left
          · intro w'
            go_simp
            with_reducible rfl
          rotate_left
          · simp only [Act.put, List.setIfInBounds_toArray, List.set_cons_zero, List.set_cons_succ, i64_w, i32_w]
            rfl
          refine take_ (i := 1) (N := some 111) (v := ?_) (a' := ?_) #[true, true, true, true, false, true, false, false, true, false, false, false, false, false, false] rfl rfl (by kernel_rfl) (fun _ _ _ h => h) (Or.inl ⟨by rfl, ?_⟩) hHeld ?_ ?_
          rotate_left
          · rintro w' ⟨s0, s1⟩
            go_simp
            with_reducible rfl
          rotate_left
          · simp only [Act.put, List.setIfInBounds_toArray, List.set_cons_zero, List.set_cons_succ, i64_w, i32_w]
            rfl
          refine take_ (i := 4) (N := some 114) (v := ?_) (a' := ?_) #[true, true, true, true, true, true, false, false, true, false, false, false, false, false, false] rfl rfl (by kernel_rfl) (fun _ _ _ h => h) (Or.inl ⟨by rfl, ?_⟩) hHeld ?_ ?_
          rotate_left
          · rintro w' ⟨s0, s1⟩
            go_simp
            with_reducible rfl
          rotate_left
          · simp only [Act.put, List.setIfInBounds_toArray, List.set_cons_zero, List.set_cons_succ, i64_w, i32_w]
            rfl
          refine pure_ (i := 6) (N := some 116) (v := ?_) (a' := ?_) #[true, true, true, true, true, true, true, false, true, false, false, false, false, false, false] rfl rfl (by kernel_rfl) (fun _ _ _ h => h) (Or.inl ⟨by rfl, ?_⟩) ?_ ?_
          rotate_left
          · intro w'
            go_simp
            with_reducible rfl
          rotate_left
          · simp only [Act.put, List.setIfInBounds_toArray, List.set_cons_zero, List.set_cons_succ, i64_w, i32_w]
            rfl
          refine take_ (i := 7) (N := some 117) (v := ?_) (a' := ?_) #[true, true, true, true, true, true, true, true, true, false, false, false, false, false, false] rfl rfl (by kernel_rfl) (fun _ _ _ h => h) (Or.inl ⟨by rfl, ?_⟩) hHeld ?_ ?_
          rotate_left
          · rintro w' ⟨s0, s1⟩
            go_simp
            with_reducible rfl
          rotate_left
          · simp only [Act.put, List.setIfInBounds_toArray, List.set_cons_zero, List.set_cons_succ, i64_w, i32_w]
            rfl
          refine one_ (i := 9) (N := some 119) #[true, true, true, true, true, true, true, true, true, true, false, false, false, false, false] rfl rfl (by kernel_rfl) (by decide) (fun K hK => ?_)
          refine goes_ Tryd.func27 (by kernel_rfl) rfl #[.slice Ax (rdV own (i : Int)).length cx, .slice Ad d.length cd] (by rfl) rfl rfl (by (try simp only [List.map_toArray, List.map_cons, List.map_nil]); first | done | rfl) ?_
          with_reducible refine (ring_Add.calls k Ax cx (rdV own (i : Int)) Ad cd d x xe wd (Kd.R_reads' (HD.out.leaf _ _ HX1.out)).2.2 (Kd.R_reads' (HD.out.leaf _ _ HX1.out)).2.1 (Kd.R_reads' (HD.out.leaf _ _ HD1.out)).2.2 (Kd.R_reads' (HD.out.leaf _ _ HD1.out)).2.1 HADD.out).mono ?_
          rintro e w7 ⟨vx, rfl, hR, hb⟩
          obtain ⟨Ag, cg, rfl⟩ := Kd.R_slice hR
          have H9 := Aside0.mk (HD.out.made hb hR)
          clear hR hb
          refine ⟨_, rfl, ?_⟩
          refine hK.out _ _ ⟨(cells2 (H9.out.get 5 rfl)).1, (H9.out.cell 0 rfl i HCU.out).1⟩ (fun hHeld => ?_)
          clear hK K
          refine norm_ (a' := ?_) ?_ ?_
          rotate_left
          · show Act.put _ (some 119) _ = _
            simp only [Act.put, List.setIfInBounds_toArray, List.set_cons_zero, List.set_cons_succ, i64_w, i32_w]
            rfl
          refine pure_ (i := 10) (N := some 109) (v := ?_) (a' := ?_) #[true, true, true, true, true, true, true, true, true, true, true, false, false, false, false] rfl rfl (by kernel_rfl) (fun _ _ _ h => h) (Or.inl ⟨by rfl, ?_⟩) ?_ ?_
          rotate_left
          · intro w'
            go_simp
            with_reducible rfl
          rotate_left
          · simp only [Act.put, List.setIfInBounds_toArray, List.set_cons_zero, List.set_cons_succ, i64_w, i32_w]
            rfl
          refine pure_ (i := 11) (N := some 120) (v := ?_) (a' := ?_) #[true, true, true, true, true, true, true, true, true, true, true, true, false, false, false] rfl rfl (by kernel_rfl) (fun _ _ _ h => h) (Or.inl ⟨by rfl, ?_⟩) ?_ ?_
          rotate_left
          · intro w'
            go_simp
            with_reducible rfl
          rotate_left
          · simp only [Act.put, List.setIfInBounds_toArray, List.set_cons_zero, List.set_cons_succ, i64_w, i32_w]
            rfl
          refine pure_ (i := 12) (N := some 121) (v := ?_) (a' := ?_) #[true, true, true, true, true, true, true, true, true, true, true, true, true, false, false] rfl rfl (by kernel_rfl) (fun _ _ _ h => h) (Or.inl ⟨by rfl, ?_⟩) ?_ ?_
          rotate_left
          · intro w'
            go_simp
            with_reducible rfl
          rotate_left
          · simp only [Act.put, List.setIfInBounds_toArray, List.set_cons_zero, List.set_cons_succ, i64_w, i32_w]
            rfl
          refine pure_ (i := 13) (N := some 122) (v := ?_) (a' := ?_) #[true, true, true, true, true, true, true, true, true, true, true, true, true, true, false] rfl rfl (by kernel_rfl) (fun _ _ _ h => h) (Or.inl ⟨by rfl, ?_⟩) ?_ ?_
          rotate_left
          · intro w'
            go_simp
            with_reducible rfl
          rotate_left
          · simp only [Act.put, List.setIfInBounds_toArray, List.set_cons_zero, List.set_cons_succ, i64_w, i32_w]
            rfl
          refine last_ (i := 14) (N := none) #[true, true, true, true, true, true, true, true, true, true, true, true, true, true, true] rfl rfl (by kernel_rfl) (by decide) (fun K hK => ?_)
          obtain ⟨y0, z0⟩ := H9.out.cell 0 rfl i HCU.out
          refine skip_ (w1 := ?_) ?_ ?_ ?_ ?_
          rotate_left
          · rfl
          · rfl
          · go_simp
            rfl
          refine hK.out _ _ ?_
          clear hK K
          refine done_ (by kernel_rfl) ?_
          refine exit_gen (fun W => Hq w [(gm, 25, #[.slice (some ad1) l1.length c1, .slice (some ad2) l2.length c2]), (gr, 25, #[.slice none 0 0, .slice none 0 0]), (gs, 49, #[.slice (some ad0) l0.length c0, .slice (some ad1) l1.length c1, .slice (some ad2) l2.length c2, .int .u64 sh, .int .u64 gv]), (gt, 49, #[.slice (some ad9) l9.length c9, .slice (some ad1) l1.length c1, .slice (some ad2) l2.length c2, .int .u64 sh, .int .u64 gv]), (gp, 47, #[.pointer (some ⟨gs, 0, none⟩), .pointer (some ⟨gt, 0, none⟩)]), (go, 25, #[.slice (some ⟨g0, 0, none⟩) l0.length cv, .slice (some ⟨g1, 0, none⟩) l0.length cw])] ((35, .slice (some ⟨g0, 0, none⟩) l0.length cv, (cs0.set i (.slice Ag x.length cg))) :: (22, .slice (some ⟨g1, 0, none⟩) l0.length cw, cs1) :: mids) (LfA (LfA Lf (.slice Ad d.length cd) d) (.slice Ag x.length cg) x) W) (H9.out.rput 0 rfl i (get_lt HCU.out) _) ?_
          clear hHeld HD H9 y0 z0
          intro w13 hL
          have H12 := Aside0.mk hL
          clear hL
          go_wp2_with fail
          go_roundg k1
          case measure => omega
          case rel => exact ⟨i + 1, Ar, cr, run, last, own.set i x, pair, _, cs1, mids, _, by first | rfl | (rw [EW.out]), rfl, rfl, ⟨by have := HI.out; omega⟩, H12, ⟨Or.inl (Or.inl HLR.out)⟩, ⟨((HVO.out.1.add _ _).add _ _).set i (Or.inr ⟨rfl, rfl⟩), by rw [List.length_set]; exact HVO.out.2⟩, ⟨HVP.out.1.lf (fun _ _ h => Or.inl (Or.inl h)), HVP.out.2⟩, ⟨by have := HLA.out; omega⟩, HS3⟩
      · rw [if_pos rfl] at hs
        obtain ⟨p2, hp2, hs⟩ := Option.bind_eq_some_iff.mp hs
        obtain ⟨⟨rn, re⟩, hrn, hs⟩ := Option.bind_eq_some_iff.mp hs
        have HADR := Aside0.mk hrn
        unfold turnP at hp2
        by_cases hla : 0 ≤ last
        · rw [if_pos hla] at hp2
          obtain ⟨⟨x, xe⟩, hx, hp2⟩ := Option.bind_eq_some_iff.mp hp2
          obtain ⟨q, rfl⟩ := Int.eq_ofNat_of_zero_le hla
          rw [Int.toNat_natCast] at hp2
          obtain rfl := Option.some.inj hp2
          have HADD := Aside0.mk hx
          have HS3 := Aside0.mk hs
          have hq : q < l0.length := by have h1 := HLA.out; have h2 := LT.out; omega
          obtain ⟨u, hu⟩ : ∃ u, cs1[q]? = some u := ⟨_, List.getElem?_eq_getElem (show q < cs1.length by rw [HVP.out.1.1, HVP.out.2.1]; exact hq)⟩
          obtain ⟨cs, hm, hrv⟩ := HVP.out.1.2.2 q u (rdM pair (q : Int)) hu (rdM_get (by rw [HVP.out.2.1]; exact hq))
          have hcl : cs.length = l0.length := by rw [hrv.1]; exact HVP.out.2.2 q hq
          obtain ⟨gq, cq2, eu⟩ := H8.out.form ((cs1.length - 1 - q) + 2) (by simpa using hm) (by rw [hcl]; exact Nat.lt_of_le_of_lt (Nat.zero_le _) hq)
          rw [hcl] at eu
          subst eu
          obtain ⟨ux, hux⟩ : ∃ u, cs[i]? = some u := ⟨_, List.getElem?_eq_getElem (show i < cs.length by rw [hcl]; exact LT.out)⟩
          have hlx := hrv.2 i ux (rdV (rdM pair (q : Int)) (i : Int)) hux (rdV_get (by rw [HVP.out.2.2 q hq]; exact LT.out))
          obtain ⟨Ax, cx, rfl⟩ := Kd.R_slice (H8.out.leaf _ _ (Or.inl hlx))
          have HCU := Aside0.mk hux
          have HLX := Aside0.mk hlx
          have HX1 := Aside0.mk (show (LfA Lf (.slice Ad d.length cd) d) _ _ from Or.inl hlx)
          have HQU := Aside0.mk hu
          have HMI : Aside0 (((35, .slice (some ⟨g0, 0, none⟩) l0.length cv, cs0) :: (22, .slice (some ⟨g1, 0, none⟩) l0.length cw, cs1) :: mids)[(cs1.length - 1 - q) + 2]? = some (35, .slice (some ⟨gq, 0, none⟩) l0.length cq2, cs)) := ⟨by simpa using hm⟩
          have HRV := Aside0.mk hrv
          have HQL := Aside0.mk hq
          have dc1 : decide (0 ≤ (q : Int)) = true := decide_eq_true (by omega)
          have dc2 : decide ((q : Int) ≥ 0) = true := decide_eq_true (by omega)
          have dc3 : 0 ≤ (q : Int) := by omega
          have dc4 : (q : Int) < (l0.length : Int) := by omega
          replace dc3 := eq_true dc3
          replace dc4 := eq_true dc4
          clear hs HS2 hx hu hux hlx hm hrv hcl hq hla hp2 hrn
          go_wp2_with (first | (go_at_call 22; (with_reducible refine (crowd_Has.calls gv i1 _ _ HBG.out).mono ?_); rintro e w5 ⟨rfl, hd⟩; have HB := Aside0.mk (below_step HB.out (below_drawn hd)); clear hd) | (go_at_call 22; (with_reducible refine (crowd_Has.calls sh i1 _ _ HBS.out).mono ?_); rintro e w5 ⟨rfl, hd⟩; have HB := Aside0.mk (below_step HB.out (below_drawn hd)); clear hd))
          obtain ⟨wd, ewd⟩ : ∃ x, x = w5.drew := ⟨_, rfl⟩
          have HD : Aside0 (Hq w [(gm, 25, #[.slice (some ad1) l1.length c1, .slice (some ad2) l2.length c2]), (gr, 25, #[.slice none 0 0, .slice none 0 0]), (gs, 49, #[.slice (some ad0) l0.length c0, .slice (some ad1) l1.length c1, .slice (some ad2) l2.length c2, .int .u64 sh, .int .u64 gv]), (gt, 49, #[.slice (some ad9) l9.length c9, .slice (some ad1) l1.length c1, .slice (some ad2) l2.length c2, .int .u64 sh, .int .u64 gv]), (gp, 47, #[.pointer (some ⟨gs, 0, none⟩), .pointer (some ⟨gt, 0, none⟩)]), (go, 25, #[.slice (some ⟨g0, 0, none⟩) l0.length cv, .slice (some ⟨g1, 0, none⟩) l0.length cw])] ((35, .slice (some ⟨g0, 0, none⟩) l0.length cv, cs0) :: (22, .slice (some ⟨g1, 0, none⟩) l0.length cw, cs1) :: mids) (LfA Lf (.slice Ad d.length cd) d) wd) := ⟨by rw [ewd]; exact (H8.out.below HB.out).drew⟩
          refine start_ (n := 21) (S := fun w' => w'.cell? ⟨go, 1, none⟩ = some (.slice (some ⟨g1, 0, none⟩) l0.length cw) ∧ w'.cell? ⟨g1, q, none⟩ = some (.slice (some ⟨gq, 0, none⟩) l0.length cq2) ∧ w'.cell? ⟨gq, i, none⟩ = some (.slice Ax (rdV (rdM pair (q : Int)) (i : Int)).length cx)) (ds := [20]) #[false, false, false, false, false, false, false, false, false, false, false, false, false, false, false, false, false, false, false, false, false] (by kernel_rfl) rfl rfl (by rw [← ewd]; exact ⟨(cells2 (HD.out.get 5 rfl)).2.1, (HD.out.cell 1 rfl q HQU.out).1, (HD.out.cell ((cs1.length - 1 - q) + 2) HMI.out i HCU.out).1⟩) (fun hHeld => ?_)
          rw [← ewd] at hHeld ⊢
          clear ewd
          refine pure_ (i := 0) (N := some 78) (v := ?_) (a' := ?_) #[true, false, false, false, false, false, false, false, false, false, false, false, false, false, false, false, false, false, false, false, false] rfl rfl (by kernel_rfl) (fun _ _ _ h => h) (Or.inl ⟨by rfl, ?_⟩) ?_ ?_
          rotate_left
          · intro w'
            go_simp
            with_reducible rfl
          rotate_left
          · simp only [Act.put, List.setIfInBounds_toArray, List.set_cons_zero, List.set_cons_succ, i64_w, i32_w]
            rfl
          refine pure_ (i := 2) (N := some 80) (v := ?_) (a' := ?_) #[true, false, true, false, false, false, false, false, false, false, false, false, false, false, false, false, false, false, false, false, false] rfl rfl (by kernel_rfl) (fun _ _ _ h => h) (Or.inl ⟨by rfl, ?_⟩) ?_ ?_
          rotate_left
          · intro w'
            go_simp
            with_reducible rfl
          rotate_left
          · simp only [Act.put, List.setIfInBounds_toArray, List.set_cons_zero, List.set_cons_succ, i64_w, i32_w]
            rfl
          refine pure_ (i := 5) (N := some 83) (v := ?_) (a' := ?_) #[true, false, true, false, false, true, false, false, false, false, false, false, false, false, false, false, false, false, false, false, false] rfl rfl (by kernel_rfl) (fun _ _ _ h => h) (Or.inl ⟨by rfl, ?_⟩) ?_ ?_
          rotate_left
          · intro w'
            go_simp
            with_reducible rfl
          rotate_left
          · simp only [Act.put, List.setIfInBounds_toArray, List.set_cons_zero, List.set_cons_succ, i64_w, i32_w]
            rfl
          refine pure_ (i := 6) (N := some 84) (v := ?_) (a' := ?_) #[true, false, true, false, false, true, true, false, false, false, false, false, false, false, false, false, false, false, false, false, false] rfl rfl (by kernel_rfl) (fun _ _ _ h => h) (Or.inl ⟨by rfl, ?_⟩) ?_ ?_
          rotate_left
          · intro w'
            go_simp
            with_reducible rfl
          rotate_left
          · simp only [Act.put, List.setIfInBounds_toArray, List.set_cons_zero, List.set_cons_succ, i64_w, i32_w]
            rfl
          refine pure_ (i := 8) (N := some 86) (v := ?_) (a' := ?_) #[true, false, true, false, false, true, true, false, true, false, false, false, false, false, false, false, false, false, false, false, false] rfl rfl (by kernel_rfl) (fun _ _ _ h => h) (Or.inl ⟨by rfl, ?_⟩) ?_ ?_
          rotate_left
          · intro w'
            go_simp
            with_reducible rfl
          rotate_left
          · simp only [Act.put, List.setIfInBounds_toArray, List.set_cons_zero, List.set_cons_succ, i64_w, i32_w]
            rfl
          refine pure_ (i := 11) (N := some 89) (v := ?_) (a' := ?_) #[true, false, true, false, false, true, true, false, true, false, false, true, false, false, false, false, false, false, false, false, false] rfl rfl (by kernel_rfl) (fun _ _ _ h => h) (Or.inl ⟨by rfl, ?_⟩) ?_ ?_
          rotate_left
          · intro w'
            go_simp
            with_reducible rfl
          rotate_left
          · simp only [Act.put, List.setIfInBounds_toArray, List.set_cons_zero, List.set_cons_succ, i64_w, i32_w]
            rfl
          refine pure_ (i := 14) (N := some 92) (v := ?_) (a' := ?_) #[true, false, true, false, false, true, true, false, true, false, false, true, false, false, true, false, false, false, false, false, false] rfl rfl (by kernel_rfl) (fun _ _ _ h => h) (Or.inl ⟨by rfl, ?_⟩) ?_ ?_
          rotate_left
          · intro w'
            go_simp
            with_reducible rfl
          rotate_left
          · simp only [Act.put, List.setIfInBounds_toArray, List.set_cons_zero, List.set_cons_succ, i64_w, i32_w]
            rfl
          refine take_ (i := 1) (N := some 79) (v := ?_) (a' := ?_) #[true, true, true, false, false, true, true, false, true, false, false, true, false, false, true, false, false, false, false, false, false] rfl rfl (by kernel_rfl) (fun _ _ _ h => h) (Or.inl ⟨by rfl, ?_⟩) hHeld ?_ ?_
          rotate_left
          · rintro w' ⟨s0, s1, s2⟩
            go_simp
            with_reducible rfl
          rotate_left
          · simp only [Act.put, List.setIfInBounds_toArray, List.set_cons_zero, List.set_cons_succ, i64_w, i32_w]
            rfl
          refine pure_ (i := 3) (N := some 81) (v := ?_) (a' := ?_) #[true, true, true, true, false, true, true, false, true, false, false, true, false, false, true, false, false, false, false, false, false] rfl rfl (by kernel_rfl) (fun _ _ _ h => h) (Or.inl ⟨by rfl, ?_⟩) ?_ ?_
          rotate_left
          · intro w'
            go_simp
            with_reducible rfl
          rotate_left
          · simp only [Act.put, List.setIfInBounds_toArray, List.set_cons_zero, List.set_cons_succ, i64_w, i32_w]
            rfl
          refine take_ (i := 4) (N := some 82) (v := ?_) (a' := ?_) #[true, true, true, true, true, true, true, false, true, false, false, true, false, false, true, false, false, false, false, false, false] rfl rfl (by kernel_rfl) (fun _ _ _ h => h) (Or.inl ⟨by rfl, ?_⟩) hHeld ?_ ?_
          rotate_left
          · rintro w' ⟨s0, s1, s2⟩
            go_simp
            with_reducible rfl
          rotate_left
          · simp only [Act.put, List.setIfInBounds_toArray, List.set_cons_zero, List.set_cons_succ, i64_w, i32_w]
            rfl
          refine take_ (i := 7) (N := some 85) (v := ?_) (a' := ?_) #[true, true, true, true, true, true, true, true, true, false, false, true, false, false, true, false, false, false, false, false, false] rfl rfl (by kernel_rfl) (fun _ _ _ h => h) (Or.inl ⟨by rfl, ?_⟩) hHeld ?_ ?_
          rotate_left
          · rintro w' ⟨s0, s1, s2⟩
            go_simp
            with_reducible rfl
          rotate_left
          · simp only [Act.put, List.setIfInBounds_toArray, List.set_cons_zero, List.set_cons_succ, i64_w, i32_w]
            rfl
          refine pure_ (i := 9) (N := some 87) (v := ?_) (a' := ?_) #[true, true, true, true, true, true, true, true, true, true, false, true, false, false, true, false, false, false, false, false, false] rfl rfl (by kernel_rfl) (fun _ _ _ h => h) (Or.inl ⟨by rfl, ?_⟩) ?_ ?_
          rotate_left
          · intro w'
            go_simp
            with_reducible rfl
          rotate_left
          · simp only [Act.put, List.setIfInBounds_toArray, List.set_cons_zero, List.set_cons_succ, i64_w, i32_w]
            rfl
          refine take_ (i := 10) (N := some 88) (v := ?_) (a' := ?_) #[true, true, true, true, true, true, true, true, true, true, true, true, false, false, true, false, false, false, false, false, false] rfl rfl (by kernel_rfl) (fun _ _ _ h => h) (Or.inl ⟨by rfl, ?_⟩) hHeld ?_ ?_
          rotate_left
          · rintro w' ⟨s0, s1, s2⟩
            go_simp
            with_reducible rfl
          rotate_left
          · simp only [Act.put, List.setIfInBounds_toArray, List.set_cons_zero, List.set_cons_succ, i64_w, i32_w]
            rfl
          refine pure_ (i := 12) (N := some 90) (v := ?_) (a' := ?_) #[true, true, true, true, true, true, true, true, true, true, true, true, true, false, true, false, false, false, false, false, false] rfl rfl (by kernel_rfl) (fun _ _ _ h => h) (Or.inl ⟨by rfl, ?_⟩) ?_ ?_
          rotate_left
          · intro w'
            go_simp
            with_reducible rfl
          rotate_left
          · simp only [Act.put, List.setIfInBounds_toArray, List.set_cons_zero, List.set_cons_succ, i64_w, i32_w]
            rfl
          refine take_ (i := 13) (N := some 91) (v := ?_) (a' := ?_) #[true, true, true, true, true, true, true, true, true, true, true, true, true, true, true, false, false, false, false, false, false] rfl rfl (by kernel_rfl) (fun _ _ _ h => h) (Or.inl ⟨by rfl, ?_⟩) hHeld ?_ ?_
          rotate_left
          · rintro w' ⟨s0, s1, s2⟩
            go_simp
            with_reducible rfl
          rotate_left
          · simp only [Act.put, List.setIfInBounds_toArray, List.set_cons_zero, List.set_cons_succ, i64_w, i32_w]
            rfl
          refine one_ (i := 15) (N := some 93) #[true, true, true, true, true, true, true, true, true, true, true, true, true, true, true, true, false, false, false, false, false] rfl rfl (by kernel_rfl) (by decide) (fun K hK => ?_)
          refine goes_ Tryd.func27 (by kernel_rfl) rfl #[.slice Ax (rdV (rdM pair (q : Int)) (i : Int)).length cx, .slice Ar run.length cr] (by rfl) rfl rfl (by (try simp only [List.map_toArray, List.map_cons, List.map_nil]); first | done | rfl) ?_
          with_reducible refine (ring_Add.calls k Ax cx (rdV (rdM pair (q : Int)) (i : Int)) Ar cr run x xe wd (Kd.R_reads' (HD.out.leaf _ _ HX1.out)).2.2 (Kd.R_reads' (HD.out.leaf _ _ HX1.out)).2.1 (Kd.R_reads' (HD.out.leaf _ _ HR1.out)).2.2 (Kd.R_reads' (HD.out.leaf _ _ HR1.out)).2.1 HADD.out).mono ?_
          rintro e w7 ⟨vx, rfl, hR, hb⟩
          obtain ⟨Ag, cg, rfl⟩ := Kd.R_slice hR
          have H9 := Aside0.mk (HD.out.made hb hR)
          clear hR hb
          refine ⟨_, rfl, ?_⟩
          refine hK.out _ _ ⟨(cells2 (H9.out.get 5 rfl)).2.1, (H9.out.cell 1 rfl q HQU.out).1, (H9.out.cell ((cs1.length - 1 - q) + 2) HMI.out i HCU.out).1⟩ (fun hHeld => ?_)
          clear hK K
          refine norm_ (a' := ?_) ?_ ?_
          rotate_left
          · show Act.put _ (some 93) _ = _
            simp only [Act.put, List.setIfInBounds_toArray, List.set_cons_zero, List.set_cons_succ, i64_w, i32_w]
            rfl
          refine pure_ (i := 16) (N := some 77) (v := ?_) (a' := ?_) #[true, true, true, true, true, true, true, true, true, true, true, true, true, true, true, true, true, false, false, false, false] rfl rfl (by kernel_rfl) (fun _ _ _ h => h) (Or.inl ⟨by rfl, ?_⟩) ?_ ?_
          rotate_left
          · intro w'
            go_simp
            with_reducible rfl
          rotate_left
          · simp only [Act.put, List.setIfInBounds_toArray, List.set_cons_zero, List.set_cons_succ, i64_w, i32_w]
            rfl
          refine pure_ (i := 17) (N := some 94) (v := ?_) (a' := ?_) #[true, true, true, true, true, true, true, true, true, true, true, true, true, true, true, true, true, true, false, false, false] rfl rfl (by kernel_rfl) (fun _ _ _ h => h) (Or.inl ⟨by rfl, ?_⟩) ?_ ?_
          rotate_left
          · intro w'
            go_simp
            with_reducible rfl
          rotate_left
          · simp only [Act.put, List.setIfInBounds_toArray, List.set_cons_zero, List.set_cons_succ, i64_w, i32_w]
            rfl
          refine pure_ (i := 18) (N := some 95) (v := ?_) (a' := ?_) #[true, true, true, true, true, true, true, true, true, true, true, true, true, true, true, true, true, true, true, false, false] rfl rfl (by kernel_rfl) (fun _ _ _ h => h) (Or.inl ⟨by rfl, ?_⟩) ?_ ?_
          rotate_left
          · intro w'
            go_simp
            with_reducible rfl
          rotate_left
          · simp only [Act.put, List.setIfInBounds_toArray, List.set_cons_zero, List.set_cons_succ, i64_w, i32_w]
            rfl
          refine pure_ (i := 19) (N := some 96) (v := ?_) (a' := ?_) #[true, true, true, true, true, true, true, true, true, true, true, true, true, true, true, true, true, true, true, true, false] rfl rfl (by kernel_rfl) (fun _ _ _ h => h) (Or.inl ⟨by rfl, ?_⟩) ?_ ?_
          rotate_left
          · intro w'
            go_simp
            with_reducible rfl
          rotate_left
          · simp only [Act.put, List.setIfInBounds_toArray, List.set_cons_zero, List.set_cons_succ, i64_w, i32_w]
            rfl
          refine last_ (i := 20) (N := none) #[true, true, true, true, true, true, true, true, true, true, true, true, true, true, true, true, true, true, true, true, true] rfl rfl (by kernel_rfl) (by decide) (fun K hK => ?_)
          obtain ⟨y0, z0⟩ := H9.out.cell ((cs1.length - 1 - q) + 2) HMI.out i HCU.out
          refine skip_ (w1 := ?_) ?_ ?_ ?_ ?_
          rotate_left
          · rfl
          · rfl
          · go_simp
            rfl
          refine hK.out _ _ ?_
          clear hK K
          refine done_ (by kernel_rfl) ?_
          refine exit_gen (fun W => Hq w [(gm, 25, #[.slice (some ad1) l1.length c1, .slice (some ad2) l2.length c2]), (gr, 25, #[.slice none 0 0, .slice none 0 0]), (gs, 49, #[.slice (some ad0) l0.length c0, .slice (some ad1) l1.length c1, .slice (some ad2) l2.length c2, .int .u64 sh, .int .u64 gv]), (gt, 49, #[.slice (some ad9) l9.length c9, .slice (some ad1) l1.length c1, .slice (some ad2) l2.length c2, .int .u64 sh, .int .u64 gv]), (gp, 47, #[.pointer (some ⟨gs, 0, none⟩), .pointer (some ⟨gt, 0, none⟩)]), (go, 25, #[.slice (some ⟨g0, 0, none⟩) l0.length cv, .slice (some ⟨g1, 0, none⟩) l0.length cw])] ((35, .slice (some ⟨g0, 0, none⟩) l0.length cv, cs0) :: (22, .slice (some ⟨g1, 0, none⟩) l0.length cw, cs1) :: (mids.set (cs1.length - 1 - q) (35, .slice (some ⟨gq, 0, none⟩) l0.length cq2, cs.set i (.slice Ag x.length cg)))) (LfA (LfA Lf (.slice Ad d.length cd) d) (.slice Ag x.length cg) x) W) (H9.out.rput ((cs1.length - 1 - q) + 2) HMI.out i (get_lt HCU.out) _) ?_
          clear hHeld HD H9 y0 z0
          intro w13 hL
          have H12 := Aside0.mk hL
          clear hL
          have HR2 := Aside0.mk (show (LfA (LfA Lf (.slice Ad d.length cd) d) (.slice Ag x.length cg) x) _ _ from Or.inl HR1.out)
          have HD2 := Aside0.mk (show (LfA (LfA Lf (.slice Ad d.length cd) d) (.slice Ag x.length cg) x) _ _ from Or.inl HD1.out)
          go_wp2_with (first | (go_at_call 27; (with_reducible refine (ring_Add.calls k Ar cr run Ad cd d rn re _ (Kd.R_reads' (H12.out.leaf _ _ HR2.out)).2.2 (Kd.R_reads' (H12.out.leaf _ _ HR2.out)).2.1 (Kd.R_reads' (H12.out.leaf _ _ HD2.out)).2.2 (Kd.R_reads' (H12.out.leaf _ _ HD2.out)).2.1 HADR.out).mono ?_); rintro e w9 ⟨vr, rfl, hR, hb⟩; obtain ⟨Au, cu, rfl⟩ := Kd.R_slice hR; have H10 := Aside0.mk (H12.out.made hb hR); clear hR hb))
          go_roundg k1
          case measure => omega
          case rel => exact ⟨i + 1, Au, cu, rn, (i : Int), own, _, cs0, cs1, _, _, by first | rfl | (rw [EW.out]), rfl, rfl, ⟨by have := HI.out; omega⟩, H10, ⟨Or.inr ⟨rfl, rfl⟩⟩, ⟨((HVO.out.1.add _ _).add _ _).add _ _, HVO.out.2⟩, ⟨(HVP.out.1.lf (fun _ _ h => Or.inl (Or.inl (Or.inl h)))).put q HQU.out ((((HRV.out.add _ _).add _ _).add _ _).set i (Or.inl (Or.inr ⟨rfl, rfl⟩))), by rw [List.length_set]; exact HVP.out.2.1, fun j hj => by
            rw [rdM_set (by rw [HVP.out.2.1]; exact hj)]
            split
            · rw [List.length_set]; exact HVP.out.2.2 q HQL.out
            · exact HVP.out.2.2 j hj⟩, ⟨by omega⟩, HS3⟩
        · rw [if_neg hla] at hp2
          obtain rfl := Option.some.inj hp2
          have HS3 := Aside0.mk hs
          have dc1 : decide (0 ≤ last) = false := decide_eq_false hla
          have dc2 : decide (last ≥ 0) = false := decide_eq_false hla
          clear hs HS2 hla hp2 hrn
          go_wp2_with (first | (go_at_call 22; (with_reducible refine (crowd_Has.calls gv i1 _ _ HBG.out).mono ?_); rintro e w5 ⟨rfl, hd⟩; have HB := Aside0.mk (below_step HB.out (below_drawn hd)); clear hd) | (go_at_call 22; (with_reducible refine (crowd_Has.calls sh i1 _ _ HBS.out).mono ?_); rintro e w5 ⟨rfl, hd⟩; have HB := Aside0.mk (below_step HB.out (below_drawn hd)); clear hd) | (go_at_call 27; (with_reducible refine (ring_Add.calls k Ar cr run Ad cd d rn re _ (Kd.R_reads' ((H8.out.below HB.out).leaf _ _ HR1.out)).2.2 (Kd.R_reads' ((H8.out.below HB.out).leaf _ _ HR1.out)).2.1 (Kd.R_reads' ((H8.out.below HB.out).leaf _ _ HD1.out)).2.2 (Kd.R_reads' ((H8.out.below HB.out).leaf _ _ HD1.out)).2.1 HADR.out).mono ?_); rintro e w9 ⟨vr, rfl, hR, hb⟩; obtain ⟨Au, cu, rfl⟩ := Kd.R_slice hR; have H10 := Aside0.mk ((H8.out.below HB.out).made hb hR); clear hR hb))
          go_roundg k1
          case measure => omega
          case rel => exact ⟨i + 1, Au, cu, rn, (i : Int), own, pair, cs0, cs1, mids, _, by first | rfl | (rw [EW.out]), rfl, rfl, ⟨by have := HI.out; omega⟩, H10, ⟨Or.inr ⟨rfl, rfl⟩⟩, ⟨(HVO.out.1.add _ _).add _ _, HVO.out.2⟩, ⟨HVP.out.1.lf (fun _ _ h => Or.inl (Or.inl h)), HVP.out.2⟩, ⟨by omega⟩, HS3⟩
theorem ideal_Turn.calls (k : Nat) (A0 : Option Addr) (c0 : Nat) (l0 : List (List Int)) (A1 : Option Addr) (c1 : Nat) (l1 : List (List Int)) (A2_0 : Option Addr) (c2_0 : Nat) (l2_0 : List (List Int)) (A2_1 : Option Addr) (c2_1 : Nat) (l2_1 : List (List (List Int))) (a3 : Int) (a4 : Int) (r1 : List (List Int)) (r2 : List (List (List Int))) (r3 : Int) (w : World) (hr0 : Kd.C (Kd.slice 37 (Kd.int .u32)) w A0 l0.length l0) (hc0 : l0.length ≤ c0) (hr1 : Kd.C (Kd.slice 37 (Kd.int .u32)) w A1 l1.length l1) (hc1 : l1.length ≤ c1) (hr2_0 : Kd.C (Kd.slice 37 (Kd.int .u32)) w A2_0 l2_0.length l2_0) (hc2_0 : l2_0.length ≤ c2_0) (hr2_1 : Kd.C (Kd.slice 35 (Kd.slice 37 (Kd.int .u32))) w A2_1 l2_1.length l2_1) (hc2_1 : l2_1.length ≤ c2_1) (h : ideal_Turn.f k l0 l1 l2_0 l2_1 a3 a4 = some (r1, r2, r3)) :
    Calls Tryd.prog 16 #[.slice A0 l0.length c0, .slice A1 l1.length c1, .agg #[.slice A2_0 l2_0.length c2_0, .slice A2_1 l2_1.length c2_1], .int .u64 a3, .int .u64 a4] w fun e w' => ∃ v0_ v1_ : Value, e = .returned (.tuple #[.agg #[v0_, v1_], .int .i64 r3]) ∧ Kd.R (Kd.slice 37 (Kd.int .u32)) 35 w' w.heap.size (fun _ => True) v0_ r1 ∧ Kd.R (Kd.slice 35 (Kd.slice 37 (Kd.int .u32))) 22 w' w.heap.size (fun k_ => some k_ ≠ (v0_ : Value).ownBlock) v1_ r2 ∧ Below w.heap.size w w' := by
  unfold ideal_Turn.f at h
  obtain ⟨e1, he1, h⟩ := Option.bind_eq_some_iff.mp h
  by_cases e0 : e1 = 0
  · subst e0
    rw [if_pos rfl] at h
    obtain ⟨e2, he2, h⟩ := Option.bind_eq_some_iff.mp h
    by_cases e0 : e2 = 0
    · subst e0
      rw [if_pos rfl] at h
      split at h
      case isFalse => cases h
      rename_i hc
      obtain ⟨h1, h2, h3, h4, h5, h6, h7, h8⟩ := hc
      obtain ⟨⟨o, p, r⟩, hS, h⟩ := Option.bind_eq_some_iff.mp h
      obtain ⟨cb, hC, h⟩ := Option.bind_eq_some_iff.mp h
      have hp := check_pos he1
      obtain ⟨ad0, _, _, rfl, _⟩ := at_V hr0 0 (Int.le_refl 0) (by omega)
      obtain ⟨ad9, _, _, rfl, _⟩ := at_V hr1 0 (Int.le_refl 0) (by omega)
      obtain ⟨ad1, _, _, rfl, _⟩ := at_V hr2_0 0 (Int.le_refl 0) (by omega)
      obtain ⟨ad2, _, _, rfl, _⟩ := at_M hr2_1 0 (Int.le_refl 0) (by omega)
      have g5 : ∀ i : Nat, i < l0.length → rdM l2_1 (i : Int) ∈ l2_1 := fun i hi => List.mem_of_getElem? (rdM_get (by omega))
      refine turn_w k w ad0 c0 l0 ad9 c1 l1 ad1 c2_0 l2_0 ad2 c2_1 l2_1 a3 a4 hr0 hc0 hr1 hc1 hr2_0 hc2_0 hr2_1 hc2_1 h1 (by omega) h2 h3 h4 (fun i hi => h5 _ (g5 i hi)) (fun i hi => h6 _ (List.mem_of_getElem? (rdV_get (by omega)))) (fun i j hi hj => h7 _ (g5 i hi) _ (List.mem_of_getElem? (rdV_get (by rw [h5 _ (g5 i hi)]; exact hj)))) h8 he1 he2 o p r hS cb hC r1 r2 r3 ?_
      cases cb
      · rw [if_neg (by decide)] at h ⊢
        exact Option.some.inj h
      · rw [if_pos rfl] at h ⊢
        exact Option.some.inj h
    · rw [if_neg e0] at h
      simp only [Option.some.injEq, Prod.mk.injEq] at h
      obtain ⟨rfl, rfl, rfl⟩ := h
      refine (turn_bad2 k w A0 c0 l0 A1 c1 l1 A2_0 c2_0 l2_0 A2_1 c2_1 l2_1 a3 a4 hr0 hc0 hr1 hc1 hr2_0 hc2_0 hr2_1 hc2_1 e2 e0 he1 he2).mono ?_
      rintro e w' ⟨rfl, hb⟩
      exact ⟨_, _, rfl, Kd.R_nil _ _ _ _ _, Kd.R_nil _ _ _ _ _, hb⟩
  · rw [if_neg e0] at h
    simp only [Option.some.injEq, Prod.mk.injEq] at h
    obtain ⟨rfl, rfl, rfl⟩ := h
    refine (turn_bad1 k w A0 c0 l0 A1 c1 l1 A2_0 c2_0 l2_0 A2_1 c2_1 l2_1 a3 a4 hr0 hc0 hr1 hc1 hr2_0 hc2_0 hr2_1 hc2_1 e1 e0 he1).mono ?_
    rintro e w' ⟨rfl, hb⟩
    exact ⟨_, _, rfl, Kd.R_nil _ _ _ _ _, Kd.R_nil _ _ _ _ _, hb⟩

end Go.Proofs.YtpicmnkkkgedeaaDoor.PAll
