/- The Go functions that the laws reach, as Lean functions, and that each call comes to what its function says. Written by a program of this session (a turned copy of the kit's print). No condition beyond those that each theorem states. -/
import Derived.Test.YtpicmnkkkgedeaaDoorPAllx0
import Derived.Test.YtpicmnkkkgedeaaDoorPAllx1
import Derived.Test.YtpicmnkkkgedeaaDoorPAllx2
import Derived.Test.YtpicmnkkkgedeaaDoorPAllx3
import Derived.Test.YtpicmnkkkgedeaaDoorPAllx4
import Derived.Test.YtpicmnkkkgedeaaDoorPAllx5
import Derived.Test.YtpicmnkkkgedeaaDoorPAllx6
import Derived.Test.YtpicmnkkkgedeaaDoorPAllx7
namespace Go.Proofs.YtpicmnkkkgedeaaDoor.PAll
open Go.RowKit Go.Proofs.YtpicmnkkkgedeaaDoorW.PrintWords Go.Proofs.YtpicmnkkkgedeaaDoorW.PrintLast Go.Proofs.YtpicmnkkkgedeaaDoorW.PrintMore
attribute [local go_sem] max2_int min2_int max_two min_two max_three min_three max_four min_four   -- for this text's walks alone
set_option linter.unusedVariables false
set_option linter.unusedSimpArgs false

/-! ### ideal_See: function 12 -/
/-! ### what the warden sees -/
theorem cells3 {w : World} {g : Nat} {t : TypeId} {a b c : Value} (h : w.heap[g]? = some (.cells #[a, b, c] t (0, 0))) :
    w.cell? ⟨g, 0, none⟩ = some a ∧ w.cell? ⟨g, 1, none⟩ = some b ∧ w.cell? ⟨g, 2, none⟩ = some c ∧ w.frozen? ⟨g, 0, none⟩ = false ∧ w.frozen? ⟨g, 1, none⟩ = false ∧ w.frozen? ⟨g, 2, none⟩ = false :=
  ⟨(blk_cell h 0).trans rfl, (blk_cell h 1).trans rfl, (blk_cell h 2).trans rfl, blk_frozen h 0, blk_frozen h 1, blk_frozen h 2⟩
theorem cells2 {w : World} {g : Nat} {t : TypeId} {a b : Value} (h : w.heap[g]? = some (.cells #[a, b] t (0, 0))) :
    w.cell? ⟨g, 0, none⟩ = some a ∧ w.cell? ⟨g, 1, none⟩ = some b ∧ w.frozen? ⟨g, 0, none⟩ = false ∧ w.frozen? ⟨g, 1, none⟩ = false :=
  ⟨(blk_cell h 0).trans rfl, (blk_cell h 1).trans rfl, blk_frozen h 0, blk_frozen h 1⟩
set_option maxHeartbeats 16000000 in
set_option maxRecDepth 100000 in
theorem see_w (k : Nat) (w : World) (A0 : Option Addr) (c0 : Nat) (l0 : List (List Int)) (ad1 : Addr) (c1 : Nat) (l1 : List (List Int)) (ad2 : Addr) (c2 : Nat) (l2 : List (List (List Int))) (sh gv : Int)
    (hr0 : Kd.C (Kd.slice 37 (Kd.int .u32)) w A0 l0.length l0) (hc0 : l0.length ≤ c0) (hr1 : Kd.C (Kd.slice 37 (Kd.int .u32)) w (some ad1) l1.length l1) (hc1 : l1.length ≤ c1) (hr2 : Kd.C (Kd.slice 35 (Kd.slice 37 (Kd.int .u32))) w (some ad2) l2.length l2) (hc2 : l2.length ≤ c2) (hT : Tab w)
    (Gs Os : List (List Int)) (Ls : List (List (List Int))) (hn : l0.length ≤ 1000) (hl1 : l1.length = l0.length) (hl2 : l2.length = l0.length) (hl3 : ∀ i : Nat, i < l0.length → (rdM l2 (i : Int)).length = l0.length) (he : ideal_check.f k l0 l1 l2 sh gv = some 0)
    (gl : Gs.length = l0.length) (ol : Os.length = l0.length) (ll : Ls.length = l0.length) (l3 : ∀ i : Nat, i < l0.length → (Ls.getD i []).length = l0.length) (hG : ∀ i : Nat, i < l0.length → seeG k l0 l1 l2 sh i = some (Gs.getD i [])) (hO : ∀ i : Nat, i < l0.length → seeO l1 gv i = some (Os.getD i [])) (hL : ∀ i j : Nat, i < l0.length → j < l0.length → seeL l2 sh gv i j = some ((Ls.getD i []).getD j [])) :
    Calls Tryd.prog 12 #[.slice A0 l0.length c0, .agg #[.slice (some ad1) l1.length c1, .slice (some ad2) l2.length c2], .int .u64 sh, .int .u64 gv] w fun e w' => ∃ v0_ v1_ v2_ : Value, e = .returned (.tuple #[.agg #[v0_, v1_, v2_], .int .i64 0]) ∧ Kd.R (Kd.slice 37 (Kd.int .u32)) 35 w' w.heap.size (fun k_ => some k_ ≠ (v1_ : Value).ownBlock) v0_ Gs ∧ Kd.R (Kd.slice 37 (Kd.int .u32)) 35 w' w.heap.size (fun k_ => some k_ ≠ (v0_ : Value).ownBlock) v1_ Os ∧ Kd.R (Kd.slice 35 (Kd.slice 37 (Kd.int .u32))) 22 w' w.heap.size (fun k_ => some k_ ≠ (v0_ : Value).ownBlock ∧ some k_ ≠ (v1_ : Value).ownBlock) v2_ Ls ∧ Below w.heap.size w w' := by
  have hu25 := Tryd.underlying25
  have hu30 := Tryd.underlying30
  have hu49 := Tryd.underlying49
  have HR0 := Aside0.mk hr0
  have HC0 := Aside0.mk hc0
  have HR1 := Aside0.mk hr1
  have HC1 := Aside0.mk hc1
  have HR2 := Aside0.mk hr2
  have HC2 := Aside0.mk hc2
  have HT := Aside0.mk hT
  have NN := Aside0.mk hn
  have HL1 := Aside0.mk hl1
  have HL2 := Aside0.mk hl2
  have HL3 := Aside0.mk hl3
  have HE := Aside0.mk he
  have GL := Aside0.mk gl
  have OL := Aside0.mk ol
  have LL := Aside0.mk ll
  have L3 := Aside0.mk l3
  have HG := Aside0.mk hG
  have HO := Aside0.mk hO
  have HL := Aside0.mk hL
  have mk22 := make22 l0.length (by omega)
  have mk23 := make23 l0.length (by omega)
  clear hr0 hc0 hr1 hc1 hr2 hc2 hT hn hl1 hl2 hl3 he gl ol ll l3 hG hO hL
  go_enter Tryd.func12, Tryd.ntmps12
  go_wp2_with (first | ((with_reducible refine gate_dst (N := 5) rfl ?_); refine box_event ?hg (N := 5) ?hd (cs := #[.slice (some ad1) l1.length c1, .slice (some ad2) l2.length c2]) (t := 25) ?hr ?_; (case hd => rfl); (case hg => rfl); (case hr => first | (go_simp; done) | (go_simp; rfl)); intro gm hg wa1 hbox hb; have H0 : Aside0 (Hq w [(gm, 25, #[.slice (some ad1) l1.length c1, .slice (some ad2) l2.length c2])] [] Lf0 wa1) := ⟨(Hq.none_ w).box (Nat.le_of_eq hg.symm) hbox hb (by decide)⟩; clear hb hbox hg) | ((with_reducible refine gate_dst (N := 8) rfl ?_); refine box_event ?hg (N := 8) ?hd (cs := #[.slice none 0 0, .slice none 0 0, .slice none 0 0]) (t := 30) ?hr ?_; (case hd => rfl); (case hg => rfl); (case hr => first | (go_simp; done) | (go_simp; rfl)); intro gr hg wa2 hbox hb; have H1 : Aside0 (Hq w [(gm, 25, #[.slice (some ad1) l1.length c1, .slice (some ad2) l2.length c2]), (gr, 30, #[.slice none 0 0, .slice none 0 0, .slice none 0 0])] [] Lf0 wa2) := ⟨H0.out.box (Nat.le_of_eq hg.symm) hbox hb (by decide)⟩; clear hb hbox hg; obtain ⟨y0, y1, y2, y3⟩ := cells2 (H1.out.get 0 rfl)) | ((with_reducible refine gate_dst (N := 22) rfl ?_); refine box_event ?hg (N := 22) ?hd (cs := #[.slice A0 l0.length c0, .slice (some ad1) l1.length c1, .slice (some ad2) l2.length c2, .int .u64 sh, .int .u64 gv]) (t := 49) ?hr ?_; (case hd => rfl); (case hg => rfl); (case hr => first | (go_simp; done) | (go_simp; rfl)); intro gs hg wa3 hbox hb; have H2 : Aside0 (Hq w [(gm, 25, #[.slice (some ad1) l1.length c1, .slice (some ad2) l2.length c2]), (gr, 30, #[.slice none 0 0, .slice none 0 0, .slice none 0 0]), (gs, 49, #[.slice A0 l0.length c0, .slice (some ad1) l1.length c1, .slice (some ad2) l2.length c2, .int .u64 sh, .int .u64 gv])] [] Lf0 wa3) := ⟨H1.out.box (Nat.le_of_eq hg.symm) hbox hb (by decide)⟩; clear hb hbox hg y0 y1 y2 y3) | (go_at_call 21; (with_reducible refine (check_w k wa3 gs A0 c0 l0 (some ad1) c1 l1 (some ad2) c2 l2 sh gv (H2.out.get 2 rfl) (Kd.C_below HR0.out H2.out.hb) HC0.out (Kd.C_below HR1.out H2.out.hb) HC1.out (Kd.C_below HR2.out H2.out.hb) HC2.out 0 HE.out).mono ?_); rintro e wb ⟨rfl, hb⟩; have H3 := Aside0.mk (H2.out.below hb); clear hb H2 H1 H0))
  obtain ⟨wd, ewd⟩ : ∃ x, x = wb.drew := ⟨_, rfl⟩
  have H4 : Aside0 (Hq w [(gm, 25, #[.slice (some ad1) l1.length c1, .slice (some ad2) l2.length c2]), (gr, 30, #[.slice none 0 0, .slice none 0 0, .slice none 0 0]), (gs, 49, #[.slice A0 l0.length c0, .slice (some ad1) l1.length c1, .slice (some ad2) l2.length c2, .int .u64 sh, .int .u64 gv])] [] Lf0 wd) := ⟨by rw [ewd]; exact H3.out.drew⟩
  clear H3
  refine start_ (n := 9) (S := fun w' => True) (ds := [8]) #[false, false, false, false, false, false, false, false, false] (by kernel_rfl) rfl rfl trivial (fun hHeld => ?_)
  rw [← ewd] at ⊢
  clear ewd
  refine pure_ (i := 0) (N := some 31) (v := ?_) (a' := ?_) #[true, false, false, false, false, false, false, false, false] rfl rfl (by kernel_rfl) (fun _ _ _ h => h) (Or.inl ⟨by rfl, ?_⟩) ?_ ?_
  rotate_left
  · intro w'
    go_simp
    with_reducible rfl
  rotate_left
  · simp only [Act.put, List.setIfInBounds_toArray, List.set_cons_zero, List.set_cons_succ, i64_w, i32_w]
    rfl
  refine pure_ (i := 2) (N := some 33) (v := ?_) (a' := ?_) #[true, false, true, false, false, false, false, false, false] rfl rfl (by kernel_rfl) (fun _ _ _ h => h) (Or.inl ⟨by rfl, ?_⟩) ?_ ?_
  rotate_left
  · intro w'
    go_simp
    with_reducible rfl
  rotate_left
  · simp only [Act.put, List.setIfInBounds_toArray, List.set_cons_zero, List.set_cons_succ, i64_w, i32_w]
    rfl
  refine pure_ (i := 4) (N := some 35) (v := ?_) (a' := ?_) #[true, false, true, false, true, false, false, false, false] rfl rfl (by kernel_rfl) (fun _ _ _ h => h) (Or.inl ⟨by rfl, ?_⟩) ?_ ?_
  rotate_left
  · intro w'
    go_simp
    with_reducible rfl
  rotate_left
  · simp only [Act.put, List.setIfInBounds_toArray, List.set_cons_zero, List.set_cons_succ, i64_w, i32_w]
    rfl
  refine span_ (fuel' := 1) #[true, true, true, true, true, true, true, true, false] [1, 3, 5, 6, 7] [1, 3, 5, 7] (fun i => match i with | 1 => 32 | 3 => 34 | 5 => 36 | 7 => 13 | _ => 0) [[], [0], [], [2], [], [4], [0, 1, 2, 3, 4, 5], [], [0, 1, 2, 3, 4, 5, 6, 7]] [[], [], [], [], [], [], [], [], []] [32, 34, 36, 37, 13] [[], [32], [], [34], [], [36], [37, 32, 34, 36], [13], []] (fun j vs w' => match j with | 1 => (∃ g, (vs.getD 0 undef) = .slice (some ⟨g, 0, none⟩) l0.length l0.length ∧ w'.heap[g]? = some (.cells (List.replicate l0.length (.slice none 0 0)).toArray 35 (0, 0)) ∧ wd.heap.size ≤ g) | 3 => (∃ g, (vs.getD 0 undef) = .slice (some ⟨g, 0, none⟩) l0.length l0.length ∧ w'.heap[g]? = some (.cells (List.replicate l0.length (.slice none 0 0)).toArray 35 (0, 0)) ∧ wd.heap.size ≤ g) | 5 => (∃ g, (vs.getD 0 undef) = .slice (some ⟨g, 0, none⟩) l0.length l0.length ∧ w'.heap[g]? = some (.cells (List.replicate l0.length (.slice none 0 0)).toArray 22 (0, 0)) ∧ wd.heap.size ≤ g) | 6 => ((vs.getD 0 undef) = .agg #[(vs.getD 1 undef), (vs.getD 2 undef), (vs.getD 3 undef)]) | 7 => (∃ g : Nat, (vs.getD 0 undef) = .pointer (some ⟨g, 0, none⟩) ∧ w'.heap[g]? = some (.cells #[.slice none 0 0, .slice none 0 0, .slice none 0 0] 30 (0, 0)) ∧ wd.heap.size ≤ g) | _ => True) rfl (by kernel_rfl) (by kernel_rfl) ?_ (fun _ _ => trivial) ?_ ?_
  · refine pers_cons (fun _ _ _ hb ⟨g, h1, h2, h3⟩ => ⟨g, h1, blk_below h2 hb, h3⟩) ?_; refine pers_cons (fun _ _ _ hb ⟨g, h1, h2, h3⟩ => ⟨g, h1, blk_below h2 hb, h3⟩) ?_; refine pers_cons (fun _ _ _ hb ⟨g, h1, h2, h3⟩ => ⟨g, h1, blk_below h2 hb, h3⟩) ?_; refine pers_cons (fun _ _ _ _ h => h) ?_; refine pers_cons (fun _ _ _ hb ⟨g, h1, h2, h3⟩ => ⟨g, h1, blk_below h2 hb, h3⟩) ?_; exact pers_nil
  rotate_left
  · skip
    refine spans_cons (some 32) rfl rfl (fun s a1 w1 ha hB hF hA K hK => ?_) ?_
    · simp only [putS, List.map_cons, List.map_nil, putAll, Act.put, List.setIfInBounds_toArray, List.set_cons_zero, List.set_cons_succ] at ha
      subst ha
      refine row_step ?hg (n := l0.length) (cs := (List.replicate l0.length (.slice none 0 0)).toArray) (t := 35) ?hr ?_; (case hg => rfl); (case hr => first | (go_simp; done) | (go_simp; rfl))
      intro g hg w2 hbox hb
      exact hK.out _ w2 (Or.inl hb) (fun _ => new_slice hg (blk_lt hbox)) ⟨_, rfl, hbox, Nat.le_trans hB.size hg⟩
    refine spans_cons (some 34) rfl rfl (fun s a1 w1 ha hB hF hA K hK => ?_) ?_
    · simp only [putS, List.map_cons, List.map_nil, putAll, Act.put, List.setIfInBounds_toArray, List.set_cons_zero, List.set_cons_succ] at ha
      subst ha
      refine row_step ?hg (n := l0.length) (cs := (List.replicate l0.length (.slice none 0 0)).toArray) (t := 35) ?hr ?_; (case hg => rfl); (case hr => first | (go_simp; done) | (go_simp; rfl))
      intro g hg w2 hbox hb
      exact hK.out _ w2 (Or.inl hb) (fun _ => new_slice hg (blk_lt hbox)) ⟨_, rfl, hbox, Nat.le_trans hB.size hg⟩
    refine spans_cons (some 36) rfl rfl (fun s a1 w1 ha hB hF hA K hK => ?_) ?_
    · simp only [putS, List.map_cons, List.map_nil, putAll, Act.put, List.setIfInBounds_toArray, List.set_cons_zero, List.set_cons_succ] at ha
      subst ha
      refine row_step ?hg (n := l0.length) (cs := (List.replicate l0.length (.slice none 0 0)).toArray) (t := 22) ?hr ?_; (case hg => rfl); (case hr => first | (go_simp; done) | (go_simp; rfl))
      intro g hg w2 hbox hb
      exact hK.out _ w2 (Or.inl hb) (fun _ => new_slice hg (blk_lt hbox)) ⟨_, rfl, hbox, Nat.le_trans hB.size hg⟩
    refine spans_cons (some 37) rfl rfl (fun s a1 w1 ha hB hF hA K hK => ?_) ?_
    · simp only [putS, List.map_cons, List.map_nil, putAll, Act.put, List.setIfInBounds_toArray, List.set_cons_zero, List.set_cons_succ] at ha
      subst ha
      have f1 : ∃ g, (s 32) = .slice (some ⟨g, 0, none⟩) l0.length l0.length ∧ w1.heap[g]? = some (.cells (List.replicate l0.length (.slice none 0 0)).toArray 35 (0, 0)) ∧ wd.heap.size ≤ g := hF 1 (by decide) (by decide) (by decide)
      have f3 : ∃ g, (s 34) = .slice (some ⟨g, 0, none⟩) l0.length l0.length ∧ w1.heap[g]? = some (.cells (List.replicate l0.length (.slice none 0 0)).toArray 35 (0, 0)) ∧ wd.heap.size ≤ g := hF 3 (by decide) (by decide) (by decide)
      have f5 : ∃ g, (s 36) = .slice (some ⟨g, 0, none⟩) l0.length l0.length ∧ w1.heap[g]? = some (.cells (List.replicate l0.length (.slice none 0 0)).toArray 22 (0, 0)) ∧ wd.heap.size ≤ g := hF 5 (by decide) (by decide) (by decide)
      obtain ⟨g1, e1, _⟩ := f1
      obtain ⟨g3, e3, _⟩ := f3
      obtain ⟨g5, e5, _⟩ := f5
      rw [e1, e3, e5] at hK ⊢
      refine value_ (w1 := ?_) (v := ?_) (by rfl) rfl ?_ ?_
      rotate_left 2
      · go_simp
        constructor
        · rfl
        · rfl
      exact hK.out _ _ (Or.inl (Below.refl _ _)) (fun h => absurd h (by decide)) (by show Value.agg _ = .agg #[s 32, s 34, s 36]; rw [e1, e3, e5])
    refine spans_cons (some 13) rfl rfl (fun s a1 w1 ha hB hF hA K hK => ?_) ?_
    · simp only [putS, List.map_cons, List.map_nil, putAll, Act.put, List.setIfInBounds_toArray, List.set_cons_zero, List.set_cons_succ] at ha
      subst ha
      refine box_step ?hg (N := 13) ?hd (cs := #[.slice none 0 0, .slice none 0 0, .slice none 0 0]) (t := 30) ?hr ?_; (case hd => rfl); (case hg => rfl); (case hr => first | (go_simp; done) | (go_simp; rfl))
      intro g hg w2 hbox hb
      subst hg
      exact hK.out _ w2 (Or.inl hb) (fun _ => new_pointer (Nat.le_refl _) (blk_lt hbox)) ⟨_, rfl, hbox, hB.size⟩
    exact spans_nil
  intro s w9 hB hF hA
  have hHeld : True := ((fun _ _ => trivial) : ∀ w' : World, _ → True) _ hB
  have f1 : ∃ g, (s 32) = .slice (some ⟨g, 0, none⟩) l0.length l0.length ∧ w9.heap[g]? = some (.cells (List.replicate l0.length (.slice none 0 0)).toArray 35 (0, 0)) ∧ wd.heap.size ≤ g := hF 1 (by decide) rfl
  have f3 : ∃ g, (s 34) = .slice (some ⟨g, 0, none⟩) l0.length l0.length ∧ w9.heap[g]? = some (.cells (List.replicate l0.length (.slice none 0 0)).toArray 35 (0, 0)) ∧ wd.heap.size ≤ g := hF 3 (by decide) rfl
  have f5 : ∃ g, (s 36) = .slice (some ⟨g, 0, none⟩) l0.length l0.length ∧ w9.heap[g]? = some (.cells (List.replicate l0.length (.slice none 0 0)).toArray 22 (0, 0)) ∧ wd.heap.size ≤ g := hF 5 (by decide) rfl
  have f6 : (s 37) = .agg #[(s 32), (s 34), (s 36)] := hF 6 (by decide) rfl
  have f7 : ∃ g : Nat, (s 13) = .pointer (some ⟨g, 0, none⟩) ∧ w9.heap[g]? = some (.cells #[.slice none 0 0, .slice none 0 0, .slice none 0 0] 30 (0, 0)) ∧ wd.heap.size ≤ g := hF 7 (by decide) rfl
  have hap1_3 : apartV (s 32) (s 34) := hA 1 (by decide) 3 (by decide) (by decide)
  clear hF hA
  simp only [putS, List.map_cons, List.map_nil, putAll, Act.put, List.setIfInBounds_toArray, List.set_cons_zero, List.set_cons_succ]
  obtain ⟨gG, eG, hG, lG⟩ := f1
  obtain ⟨gO, eO, hO, lO⟩ := f3
  obtain ⟨gL, eL, hL, lL⟩ := f5
  obtain ⟨gV, eV, hV, lV⟩ := f7
  rw [eG, eO] at hap1_3
  have H5 := Aside0.mk (H4.out.four hB hV hG hO hL lV lG lO lL (by have := NN.out; omega) (fun e => hap1_3 gG rfl (by rw [e]; rfl)))
  rw [f6, eG, eO, eL, eV]
  clear f6 eG eO eL eV hG hO hL hV lG lO lL lV hap1_3 hB s H4
  refine last_ (i := 8) (N := none) #[true, true, true, true, true, true, true, true, true] rfl rfl (by kernel_rfl) (by decide) (fun K hK => ?_)
  obtain ⟨z0, z1, z2, z3⟩ := cells3 (H5.out.get 3 rfl)
  refine skip_ (w1 := ?_) ?_ ?_ ?_ ?_
  rotate_left
  · rfl
  · rfl
  · go_simp
    rfl
  refine hK.out _ _ ?_
  clear hK K
  refine done_ (by kernel_rfl) ?_
  refine exit_gen (fun W => Hq w [(gm, 25, #[.slice (some ad1) l1.length c1, .slice (some ad2) l2.length c2]), (gr, 30, #[.slice none 0 0, .slice none 0 0, .slice none 0 0]), (gs, 49, #[.slice A0 l0.length c0, .slice (some ad1) l1.length c1, .slice (some ad2) l2.length c2, .int .u64 sh, .int .u64 gv]), (gV, 30, #[.slice (some ⟨gG, 0, none⟩) l0.length l0.length, .slice (some ⟨gO, 0, none⟩) l0.length l0.length, .slice (some ⟨gL, 0, none⟩) l0.length l0.length])] [(35, .slice (some ⟨gG, 0, none⟩) l0.length l0.length, (List.replicate l0.length (.slice none 0 0))), (35, .slice (some ⟨gO, 0, none⟩) l0.length l0.length, (List.replicate l0.length (.slice none 0 0))), (22, .slice (some ⟨gL, 0, none⟩) l0.length l0.length, (List.replicate l0.length (.slice none 0 0)))] Lf0 W) (((H5.out.put 3 rfl 0 _ rfl).put 3 rfl 1 _ rfl).put 3 rfl 2 _ rfl) ?_
  clear hHeld H5 z0 z1 z2 z3
  intro w10 hL
  have H6 := Aside0.mk hL
  clear hL
  go_wp2_with fail
  go_loopg [39] l0.length (fun kq v39 w' => ∃ (i : Nat) (Gv Ov Lv : List Value) (mids : List Rw) (Lf : Value → List Int → Prop), v39 = .int .i64 (i : Int) ∧ Aside0 (i + kq = l0.length) ∧ Aside0 (Hq w [(gm, 25, #[.slice (some ad1) l1.length c1, .slice (some ad2) l2.length c2]), (gr, 30, #[.slice none 0 0, .slice none 0 0, .slice none 0 0]), (gs, 49, #[.slice A0 l0.length c0, .slice (some ad1) l1.length c1, .slice (some ad2) l2.length c2, .int .u64 sh, .int .u64 gv]), (gV, 30, #[.slice (some ⟨gG, 0, none⟩) l0.length l0.length, .slice (some ⟨gO, 0, none⟩) l0.length l0.length, .slice (some ⟨gL, 0, none⟩) l0.length l0.length])] ((35, .slice (some ⟨gG, 0, none⟩) l0.length l0.length, Gv) :: (35, .slice (some ⟨gO, 0, none⟩) l0.length l0.length, Ov) :: (22, .slice (some ⟨gL, 0, none⟩) l0.length l0.length, Lv) :: mids) Lf w') ∧ Aside0 (Lf (.slice none 0 0) []) ∧ Aside0 (RV Lf Gv (upto l0.length i Gs)) ∧ Aside0 (RV Lf Ov (upto l0.length i Os)) ∧ Aside0 (RM mids Lf Lv (upto l0.length i Ls)))
  case atStart => exact ⟨0, _, _, _, [], Lf0, rfl, ⟨Nat.zero_add _⟩, H6, ⟨⟨rfl, rfl⟩⟩, ⟨by rw [upto_zero]; exact RV.reps _ ⟨rfl, rfl⟩⟩, ⟨by rw [upto_zero]; exact RV.reps _ ⟨rfl, rfl⟩⟩, ⟨by rw [upto_zero]; exact RM.reps _ _⟩⟩
  case round =>
    clear H6
    obtain ⟨i, Gv, Ov, Lv, mids, Lf, rfl, HI, H6, HN, HVG, HVO, HVL⟩ := hrel
    have hi := HI.out
    cases gk with
    | zero =>
      obtain rfl : i = l0.length := by omega
      have d1 : decide ((l0.length : Int) < (l0.length : Int)) = false := decide_eq_false (by omega)
      have HVG1 := Aside0.mk (show RV Lf Gv Gs by have h := HVG.out; rwa [upto_all GL.out] at h)
      have HVO1 := Aside0.mk (show RV Lf Ov Os by have h := HVO.out; rwa [upto_all OL.out] at h)
      have HVL1 := Aside0.mk (show RM mids Lf Lv Ls by have h := HVL.out; rwa [upto_all LL.out] at h)
      clear hi HVG HVO HVL
      obtain ⟨y0, y1, y2, y3, y4, y5⟩ := cells3 (H6.out.get 3 rfl)
      obtain ⟨x0, x1, x2, z0, z1, z2⟩ := cells3 (H6.out.get 1 rfl)
      go_wp2
      have HF := ((H6.out.put 1 rfl 0 (.slice (some ⟨gG, 0, none⟩) l0.length l0.length) rfl).put 1 rfl 1 (.slice (some ⟨gO, 0, none⟩) l0.length l0.length) rfl).put 1 rfl 2 (.slice (some ⟨gL, 0, none⟩) l0.length l0.length) rfl
      refine bodyPost_ret (results_ct rfl _ _ gr 30 #[.slice (some ⟨gG, 0, none⟩) l0.length l0.length, .slice (some ⟨gO, 0, none⟩) l0.length l0.length, .slice (some ⟨gL, 0, none⟩) l0.length l0.length] (0, 0) _ rfl (HF.get 1 rfl) Tryd.underlying30 rfl (by kernel_rfl)) rfl ?_
      refine ⟨.slice (some ⟨gG, 0, none⟩) l0.length l0.length, .slice (some ⟨gO, 0, none⟩) l0.length l0.length, .slice (some ⟨gL, 0, none⟩) l0.length l0.length, by first | rfl | (simp; done), ?_, ?_, ?_, HF.hb⟩
      · exact Kd.R_mono (HF.r2 0 rfl HVG1.out) (fun k hk => hk.elim (fun e e2 => HF.rnd 0 1 _ _ k rfl rfl (by decide) e e2.symm) (fun ⟨c, hc⟩ => HF.far37 1 rfl hc))
      · exact Kd.R_mono (HF.r2 1 rfl HVO1.out) (fun k hk => hk.elim (fun e e2 => HF.rnd 1 0 _ _ k rfl rfl (by decide) e e2.symm) (fun ⟨c, hc⟩ => HF.far37 0 rfl hc))
      · exact HF.r3m 2 rfl 3 (fun j r h => by simpa using h) HVL1.out _ (fun k hk => ⟨fun e => HF.rnd 2 0 _ _ k rfl rfl (by decide) hk e.symm, fun e => HF.rnd 2 1 _ _ k rfl rfl (by decide) hk e.symm⟩) (fun j r k hj hk => ⟨fun e => HF.rnd (j + 3) 0 r _ k (by simpa using hj) rfl (by omega) hk e.symm, fun e => HF.rnd (j + 3) 1 r _ k (by simpa using hj) rfl (by omega) hk e.symm⟩) (fun k c hc => ⟨HF.far37 0 rfl hc, HF.far37 1 rfl hc⟩)
    | succ k1 =>
      have hlt : i < l0.length := by omega
      have hnn := NN.out
      have p1 : 0 ≤ (i : Int) := by omega
      have q1 : (i : Int) < (l0.length : Int) := by omega
      have q2 : (i : Int) < (l1.length : Int) := by have := HL1.out; omega
      have q3 : (i : Int) < (l2.length : Int) := by have := HL2.out; omega
      have d1 : decide ((i : Int) < (l0.length : Int)) = true := decide_eq_true q1
      have d2 : decide (i < l0.length) = true := decide_eq_true hlt
      have EW : Aside0 (wrap64 ((i : Int) + 1) = ((i + 1 : Nat) : Int)) := ⟨by unfold wrap64; omega⟩
      obtain ⟨i1, ei1⟩ : ∃ x, x = (i : Int) + 1 := ⟨_, rfl⟩
      have hw1 : wrap64 ((i : Int) + 1) = i1 := by unfold wrap64; omega
      have EI := Aside0.mk ei1
      have hgi := HG.out i hlt
      unfold seeG at hgi
      rw [← ei1] at hgi
      obtain ⟨bg, hbg, hgi⟩ := Option.bind_eq_some_iff.mp hgi
      have HBG := Aside0.mk hbg
      have HGI := Aside0.mk hgi
      have hoi := HO.out i hlt
      unfold seeO at hoi
      rw [← ei1] at hoi
      obtain ⟨bo, hbo, hoi⟩ := Option.bind_eq_some_iff.mp hoi
      have HBO := Aside0.mk hbo
      have HOI := Aside0.mk hoi
      obtain ⟨_, Ax, cx, ex, hx0, hxl, hxr⟩ := at_V HR1.out (i : Int) p1 q2
      cases ex
      rw [Int.toNat_natCast] at hx0
      have HX := Aside0.mk (And.intro hx0 (And.intro hxl hxr))
      obtain ⟨_, Ay, cy, ey, hy0, hyl, hyr⟩ := at_M HR2.out (i : Int) p1 q3
      cases ey
      rw [Int.toNat_natCast] at hy0
      have hly := HL3.out i hlt
      obtain ⟨ady, _, _, eyy, _⟩ := at_V hyr 0 (Int.le_refl 0) (by omega)
      subst eyy
      have HY := Aside0.mk (And.intro hy0 (And.intro hyl (And.intro hyr hly)))
      obtain ⟨Lu, hLu⟩ : ∃ u, Lv[i]? = some u := ⟨_, List.getElem?_eq_getElem (show i < Lv.length by rw [HVL.out.1, upto_len LL.out (by omega)]; exact hlt)⟩
      obtain ⟨Gu, hGu⟩ : ∃ u, Gv[i]? = some u := ⟨_, List.getElem?_eq_getElem (show i < Gv.length by rw [HVG.out.1, upto_len GL.out (by omega)]; exact hlt)⟩
      obtain ⟨Ou, hOu⟩ : ∃ u, Ov[i]? = some u := ⟨_, List.getElem?_eq_getElem (show i < Ov.length by rw [HVO.out.1, upto_len OL.out (by omega)]; exact hlt)⟩
      have HLU := Aside0.mk (And.intro hLu (And.intro hGu hOu))
      replace p1 := eq_true p1
      replace q1 := eq_true q1
      replace q2 := eq_true q2
      replace q3 := eq_true q3
      have LT := Aside0.mk hlt
      clear hi hlt hnn ei1 hgi hbg hoi hbo hx0 hxl hxr hy0 hyl hyr hly hLu hGu hOu
      go_wp2_with fail
      obtain ⟨wd, ewd⟩ : ∃ x, x = wr.drew := ⟨_, rfl⟩
      have H7 : Aside0 (Hq w [(gm, 25, #[.slice (some ad1) l1.length c1, .slice (some ad2) l2.length c2]), (gr, 30, #[.slice none 0 0, .slice none 0 0, .slice none 0 0]), (gs, 49, #[.slice A0 l0.length c0, .slice (some ad1) l1.length c1, .slice (some ad2) l2.length c2, .int .u64 sh, .int .u64 gv]), (gV, 30, #[.slice (some ⟨gG, 0, none⟩) l0.length l0.length, .slice (some ⟨gO, 0, none⟩) l0.length l0.length, .slice (some ⟨gL, 0, none⟩) l0.length l0.length])] ((35, .slice (some ⟨gG, 0, none⟩) l0.length l0.length, Gv) :: (35, .slice (some ⟨gO, 0, none⟩) l0.length l0.length, Ov) :: (22, .slice (some ⟨gL, 0, none⟩) l0.length l0.length, Lv) :: mids) Lf wd) := ⟨by rw [ewd]; exact H6.out.drew⟩
      clear H6
      refine start_ (n := 7) (S := fun w' => w'.cell? ⟨gV, 2, none⟩ = some (.slice (some ⟨gL, 0, none⟩) l0.length l0.length)) (ds := [6]) #[false, false, false, false, false, false, false] (by kernel_rfl) rfl rfl (by rw [← ewd]; exact (cells3 (H7.out.get 3 rfl)).2.2.1) (fun hHeld => ?_)
      rw [← ewd] at hHeld ⊢
      clear ewd
      refine pure_ (i := 0) (N := some 42) (v := ?_) (a' := ?_) #[true, false, false, false, false, false, false] rfl rfl (by kernel_rfl) (fun _ _ _ h => h) (Or.inl ⟨by rfl, ?_⟩) ?_ ?_
      rotate_left
      · intro w'
        go_simp
        with_reducible rfl
      rotate_left
      · simp only [Act.put, List.setIfInBounds_toArray, List.set_cons_zero, List.set_cons_succ, i64_w, i32_w]
        rfl
      refine pure_ (i := 2) (N := some 44) (v := ?_) (a' := ?_) #[true, false, true, false, false, false, false] rfl rfl (by kernel_rfl) (fun _ _ _ h => h) (Or.inl ⟨by rfl, ?_⟩) ?_ ?_
      rotate_left
      · intro w'
        go_simp
        with_reducible rfl
      rotate_left
      · simp only [Act.put, List.setIfInBounds_toArray, List.set_cons_zero, List.set_cons_succ, i64_w, i32_w]
        rfl
      refine pure_ (i := 3) (N := some 45) (v := ?_) (a' := ?_) #[true, false, true, true, false, false, false] rfl rfl (by kernel_rfl) (fun _ _ _ h => h) (Or.inl ⟨by rfl, ?_⟩) ?_ ?_
      rotate_left
      · intro w'
        go_simp
        with_reducible rfl
      rotate_left
      · simp only [Act.put, List.setIfInBounds_toArray, List.set_cons_zero, List.set_cons_succ, i64_w, i32_w]
        rfl
      refine take_ (i := 1) (N := some 43) (v := ?_) (a' := ?_) #[true, true, true, true, false, false, false] rfl rfl (by kernel_rfl) (fun _ _ _ h => h) (Or.inl ⟨by rfl, ?_⟩) hHeld ?_ ?_
      rotate_left
      · intro w' s0
        go_simp
        with_reducible rfl
      rotate_left
      · simp only [Act.put, List.setIfInBounds_toArray, List.set_cons_zero, List.set_cons_succ, i64_w, i32_w]
        rfl
      refine one_ (i := 4) (N := some 46) #[true, true, true, true, true, false, false] rfl rfl (by kernel_rfl) (by decide) (fun K hK => ?_)
      refine row_step ?hg (n := l0.length) (cs := (List.replicate l0.length (.slice none 0 0)).toArray) (t := 35) ?hr ?_; (case hg => rfl); (case hr => first | (go_simp; done) | (go_simp; rfl))
      intro gM hg w11 hbox hb
      have H8 := Aside0.mk (H7.out.rnew hb hg hbox (by decide) (List.length_replicate ..) (by have := NN.out; omega))
      clear hg hbox hb
      refine hK.out _ _ (cells3 (H8.out.get 3 rfl)).2.2.1 (fun hHeld => ?_)
      clear hK K
      refine norm_ (a' := ?_) ?_ ?_
      rotate_left
      · show Act.put _ (some 46) _ = _
        simp only [Act.put, List.setIfInBounds_toArray, List.set_cons_zero, List.set_cons_succ, i64_w, i32_w]
        rfl
      refine pure_ (i := 5) (N := some 47) (v := ?_) (a' := ?_) #[true, true, true, true, true, true, false] rfl rfl (by kernel_rfl) (fun _ _ _ h => h) (Or.inl ⟨by rfl, ?_⟩) ?_ ?_
      rotate_left
      · intro w'
        go_simp
        with_reducible rfl
      rotate_left
      · simp only [Act.put, List.setIfInBounds_toArray, List.set_cons_zero, List.set_cons_succ, i64_w, i32_w]
        rfl
      refine last_ (i := 6) (N := none) #[true, true, true, true, true, true, true] rfl rfl (by kernel_rfl) (by decide) (fun K hK => ?_)
      obtain ⟨y0, z0⟩ := H8.out.cell 3 rfl i HLU.out.1
      refine skip_ (w1 := ?_) ?_ ?_ ?_ ?_
      rotate_left
      · rfl
      · rfl
      · go_simp
        rfl
      refine hK.out _ _ ?_
      clear hK K
      refine done_ (by kernel_rfl) ?_
      refine exit_gen (fun W => Hq w [(gm, 25, #[.slice (some ad1) l1.length c1, .slice (some ad2) l2.length c2]), (gr, 30, #[.slice none 0 0, .slice none 0 0, .slice none 0 0]), (gs, 49, #[.slice A0 l0.length c0, .slice (some ad1) l1.length c1, .slice (some ad2) l2.length c2, .int .u64 sh, .int .u64 gv]), (gV, 30, #[.slice (some ⟨gG, 0, none⟩) l0.length l0.length, .slice (some ⟨gO, 0, none⟩) l0.length l0.length, .slice (some ⟨gL, 0, none⟩) l0.length l0.length])] ((35, .slice (some ⟨gM, 0, none⟩) l0.length l0.length, (List.replicate l0.length (.slice none 0 0))) :: (35, .slice (some ⟨gG, 0, none⟩) l0.length l0.length, Gv) :: (35, .slice (some ⟨gO, 0, none⟩) l0.length l0.length, Ov) :: (22, .slice (some ⟨gL, 0, none⟩) l0.length l0.length, (Lv.set i (.slice (some ⟨gM, 0, none⟩) l0.length l0.length))) :: mids) Lf W) (H8.out.rput 3 rfl i (get_lt HLU.out.1) _) ?_
      clear hHeld H7 H8 y0 z0
      intro w12 hL
      have H9 := Aside0.mk hL
      clear hL
      have HB := Aside0.mk (Below.refl w12.heap.size w12)
      go_upto_if 51 with (first | (go_at_call 22; (with_reducible refine (crowd_Has.calls sh i1 _ _ HBG.out).mono ?_); rintro e w5 ⟨rfl, hd⟩; have HB := Aside0.mk (below_step HB.out (below_drawn hd)); clear hd))
      go_cut [] from 48 to 58 (fun wc => ∃ (Gv2 : List Value) (Lf2 : Value → List Int → Prop), Aside0 (Hq w [(gm, 25, #[.slice (some ad1) l1.length c1, .slice (some ad2) l2.length c2]), (gr, 30, #[.slice none 0 0, .slice none 0 0, .slice none 0 0]), (gs, 49, #[.slice A0 l0.length c0, .slice (some ad1) l1.length c1, .slice (some ad2) l2.length c2, .int .u64 sh, .int .u64 gv]), (gV, 30, #[.slice (some ⟨gG, 0, none⟩) l0.length l0.length, .slice (some ⟨gO, 0, none⟩) l0.length l0.length, .slice (some ⟨gL, 0, none⟩) l0.length l0.length])] ((35, .slice (some ⟨gM, 0, none⟩) l0.length l0.length, (List.replicate l0.length (.slice none 0 0))) :: (35, .slice (some ⟨gG, 0, none⟩) l0.length l0.length, Gv2) :: (35, .slice (some ⟨gO, 0, none⟩) l0.length l0.length, Ov) :: (22, .slice (some ⟨gL, 0, none⟩) l0.length l0.length, (Lv.set i (.slice (some ⟨gM, 0, none⟩) l0.length l0.length))) :: mids) Lf2 wc) ∧ Aside0 (∀ v x, Lf v x → Lf2 v x) ∧ Aside0 (RV Lf2 Gv2 (upto l0.length (i + 1) Gs)))
      case first =>
        cases bg
        · have hg0 := HGI.out
          rw [if_neg (by decide)] at hg0
          have HG0 := Aside0.mk (Option.some.inj hg0).symm
          clear hg0
          go_wp2_with fail
          go_meet
          case rel => exact ⟨Gv, Lf, ⟨H9.out.below HB.out⟩, ⟨fun _ _ h => h⟩, ⟨by rw [← upto_same GL.out LT.out HG0.out]; exact HVG.out⟩⟩
        · have hg0 := HGI.out
          rw [if_pos rfl] at hg0
          have HG0 := Aside0.mk hg0
          clear hg0
          go_wp2_with fail
          obtain ⟨wd, ewd⟩ : ∃ x, x = w5.drew := ⟨_, rfl⟩
          have HD : Aside0 (Hq w [(gm, 25, #[.slice (some ad1) l1.length c1, .slice (some ad2) l2.length c2]), (gr, 30, #[.slice none 0 0, .slice none 0 0, .slice none 0 0]), (gs, 49, #[.slice A0 l0.length c0, .slice (some ad1) l1.length c1, .slice (some ad2) l2.length c2, .int .u64 sh, .int .u64 gv]), (gV, 30, #[.slice (some ⟨gG, 0, none⟩) l0.length l0.length, .slice (some ⟨gO, 0, none⟩) l0.length l0.length, .slice (some ⟨gL, 0, none⟩) l0.length l0.length])] ((35, .slice (some ⟨gM, 0, none⟩) l0.length l0.length, (List.replicate l0.length (.slice none 0 0))) :: (35, .slice (some ⟨gG, 0, none⟩) l0.length l0.length, Gv) :: (35, .slice (some ⟨gO, 0, none⟩) l0.length l0.length, Ov) :: (22, .slice (some ⟨gL, 0, none⟩) l0.length l0.length, (Lv.set i (.slice (some ⟨gM, 0, none⟩) l0.length l0.length))) :: mids) Lf wd) := ⟨by rw [ewd]; exact (H9.out.below HB.out).drew⟩
          refine start_ (n := 8) (S := fun w' => w'.cell? ⟨gV, 0, none⟩ = some (.slice (some ⟨gG, 0, none⟩) l0.length l0.length)) (ds := [7]) #[false, false, false, false, false, false, false, false] (by kernel_rfl) rfl rfl (by rw [← ewd]; exact (cells3 (HD.out.get 3 rfl)).1) (fun hHeld => ?_)
          rw [← ewd] at hHeld ⊢
          clear ewd
          refine pure_ (i := 0) (N := some 52) (v := ?_) (a' := ?_) #[true, false, false, false, false, false, false, false] rfl rfl (by kernel_rfl) (fun _ _ _ h => h) (Or.inl ⟨by rfl, ?_⟩) ?_ ?_
          rotate_left
          · intro w'
            go_simp
            with_reducible rfl
          rotate_left
          · simp only [Act.put, List.setIfInBounds_toArray, List.set_cons_zero, List.set_cons_succ, i64_w, i32_w]
            rfl
          refine pure_ (i := 2) (N := some 54) (v := ?_) (a' := ?_) #[true, false, true, false, false, false, false, false] rfl rfl (by kernel_rfl) (fun _ _ _ h => h) (Or.inl ⟨by rfl, ?_⟩) ?_ ?_
          rotate_left
          · intro w'
            go_simp
            with_reducible rfl
          rotate_left
          · simp only [Act.put, List.setIfInBounds_toArray, List.set_cons_zero, List.set_cons_succ, i64_w, i32_w]
            rfl
          refine pure_ (i := 3) (N := some 55) (v := ?_) (a' := ?_) #[true, false, true, true, false, false, false, false] rfl rfl (by kernel_rfl) (fun _ _ _ h => h) (Or.inl ⟨by rfl, ?_⟩) ?_ ?_
          rotate_left
          · intro w'
            go_simp
            with_reducible rfl
          rotate_left
          · simp only [Act.put, List.setIfInBounds_toArray, List.set_cons_zero, List.set_cons_succ, i64_w, i32_w]
            rfl
          refine pure_ (i := 4) (N := some 56) (v := ?_) (a' := ?_) #[true, false, true, true, true, false, false, false] rfl rfl (by kernel_rfl) (fun _ _ _ h => h) (Or.inl ⟨by rfl, ?_⟩) ?_ ?_
          rotate_left
          · intro w'
            go_simp
            with_reducible rfl
          rotate_left
          · simp only [Act.put, List.setIfInBounds_toArray, List.set_cons_zero, List.set_cons_succ, i64_w, i32_w]
            rfl
          refine take_ (i := 1) (N := some 53) (v := ?_) (a' := ?_) #[true, true, true, true, true, false, false, false] rfl rfl (by kernel_rfl) (fun _ _ _ h => h) (Or.inl ⟨by rfl, ?_⟩) hHeld ?_ ?_
          rotate_left
          · intro w' s0
            go_simp
            with_reducible rfl
          rotate_left
          · simp only [Act.put, List.setIfInBounds_toArray, List.set_cons_zero, List.set_cons_succ, i64_w, i32_w]
            rfl
          refine one_ (i := 5) (N := some 57) #[true, true, true, true, true, true, false, false] rfl rfl (by kernel_rfl) (by decide) (fun K hK => ?_)
          refine goes_ Tryd.func23 (by kernel_rfl) rfl #[.pointer (some ⟨gs, 0, none⟩), .int .i64 (i : Int)] (by rfl) rfl rfl (by (try simp only [List.map_toArray, List.map_cons, List.map_nil]); first | done | rfl) ?_
          with_reducible refine (gift_c k wd gs A0 c0 l0 (some ad1) c1 l1 (some ad2) c2 l2 sh gv (HD.out.get 2 rfl) (Kd.C_below HR0.out HD.out.hb) HC0.out (Kd.C_below HR1.out HD.out.hb) HC1.out (Kd.C_below HR2.out HD.out.hb) HC2.out (i : Int) (Gs.getD i []) (HT.out.step HD.out.hb) HG0.out).mono ?_
          rintro e w6 ⟨vg, rfl, hR, hb⟩
          obtain ⟨Ag, cg, rfl⟩ := Kd.R_slice hR
          have H11 := Aside0.mk (HD.out.made hb hR)
          clear hR hb
          refine ⟨_, rfl, ?_⟩
          refine hK.out _ _ (cells3 (H11.out.get 3 rfl)).1 (fun hHeld => ?_)
          clear hK K
          refine norm_ (a' := ?_) ?_ ?_
          rotate_left
          · show Act.put _ (some 57) _ = _
            simp only [Act.put, List.setIfInBounds_toArray, List.set_cons_zero, List.set_cons_succ, i64_w, i32_w]
            rfl
          refine pure_ (i := 6) (N := some 58) (v := ?_) (a' := ?_) #[true, true, true, true, true, true, true, false] rfl rfl (by kernel_rfl) (fun _ _ _ h => h) (Or.inl ⟨by rfl, ?_⟩) ?_ ?_
          rotate_left
          · intro w'
            go_simp
            with_reducible rfl
          rotate_left
          · simp only [Act.put, List.setIfInBounds_toArray, List.set_cons_zero, List.set_cons_succ, i64_w, i32_w]
            rfl
          refine last_ (i := 7) (N := none) #[true, true, true, true, true, true, true, true] rfl rfl (by kernel_rfl) (by decide) (fun K hK => ?_)
          obtain ⟨y0, z0⟩ := H11.out.cell 1 rfl i HLU.out.2.1
          refine skip_ (w1 := ?_) ?_ ?_ ?_ ?_
          rotate_left
          · rfl
          · rfl
          · go_simp
            rfl
          refine hK.out _ _ ?_
          clear hK K
          refine done_ (by kernel_rfl) ?_
          refine exit_gen (fun W => Hq w [(gm, 25, #[.slice (some ad1) l1.length c1, .slice (some ad2) l2.length c2]), (gr, 30, #[.slice none 0 0, .slice none 0 0, .slice none 0 0]), (gs, 49, #[.slice A0 l0.length c0, .slice (some ad1) l1.length c1, .slice (some ad2) l2.length c2, .int .u64 sh, .int .u64 gv]), (gV, 30, #[.slice (some ⟨gG, 0, none⟩) l0.length l0.length, .slice (some ⟨gO, 0, none⟩) l0.length l0.length, .slice (some ⟨gL, 0, none⟩) l0.length l0.length])] ((35, .slice (some ⟨gM, 0, none⟩) l0.length l0.length, (List.replicate l0.length (.slice none 0 0))) :: (35, .slice (some ⟨gG, 0, none⟩) l0.length l0.length, Gv.set i (.slice Ag (Gs.getD i []).length cg)) :: (35, .slice (some ⟨gO, 0, none⟩) l0.length l0.length, Ov) :: (22, .slice (some ⟨gL, 0, none⟩) l0.length l0.length, (Lv.set i (.slice (some ⟨gM, 0, none⟩) l0.length l0.length))) :: mids) (LfA Lf (.slice Ag (Gs.getD i []).length cg) (Gs.getD i [])) W) (H11.out.rput 1 rfl i (get_lt HLU.out.2.1) _) ?_
          clear hHeld HD H11 y0 z0
          intro w13 hL
          have H12 := Aside0.mk hL
          clear hL
          go_wp2_with fail
          go_meet
          case rel => exact ⟨_, _, H12, ⟨fun _ _ h => Or.inl h⟩, ⟨by rw [← upto_set GL.out LT.out]; exact (HVG.out.add _ _).set i (Or.inr ⟨rfl, rfl⟩)⟩⟩
      case rest =>
        clear H9 HB HVG HGI HBG
        obtain ⟨Gv2, Lf2, H9, ML2, HVG⟩ := hcut
        have HB := Aside0.mk (Below.refl wc.heap.size wc)
        go_upto_if 62 with (first | (go_at_call 22; (with_reducible refine (crowd_Has.calls gv i1 _ _ HBO.out).mono ?_); rintro e w5 ⟨rfl, hd⟩; have HB := Aside0.mk (below_step HB.out (below_drawn hd)); clear hd))
        go_cut [] from 59 to 72 (fun wc => ∃ (Ov2 : List Value) (Lf3 : Value → List Int → Prop), Aside0 (Hq w [(gm, 25, #[.slice (some ad1) l1.length c1, .slice (some ad2) l2.length c2]), (gr, 30, #[.slice none 0 0, .slice none 0 0, .slice none 0 0]), (gs, 49, #[.slice A0 l0.length c0, .slice (some ad1) l1.length c1, .slice (some ad2) l2.length c2, .int .u64 sh, .int .u64 gv]), (gV, 30, #[.slice (some ⟨gG, 0, none⟩) l0.length l0.length, .slice (some ⟨gO, 0, none⟩) l0.length l0.length, .slice (some ⟨gL, 0, none⟩) l0.length l0.length])] ((35, .slice (some ⟨gM, 0, none⟩) l0.length l0.length, (List.replicate l0.length (.slice none 0 0))) :: (35, .slice (some ⟨gG, 0, none⟩) l0.length l0.length, Gv2) :: (35, .slice (some ⟨gO, 0, none⟩) l0.length l0.length, Ov2) :: (22, .slice (some ⟨gL, 0, none⟩) l0.length l0.length, (Lv.set i (.slice (some ⟨gM, 0, none⟩) l0.length l0.length))) :: mids) Lf3 wc) ∧ Aside0 (∀ v x, Lf2 v x → Lf3 v x) ∧ Aside0 (RV Lf3 Ov2 (upto l0.length (i + 1) Os)))
        case first =>
          cases bo
          · have hg0 := HOI.out
            rw [if_neg (by decide)] at hg0
            have HG0 := Aside0.mk (Option.some.inj hg0).symm
            clear hg0
            go_wp2_with fail
            go_meet
            case rel => exact ⟨Ov, Lf2, ⟨H9.out.below HB.out⟩, ⟨fun _ _ h => h⟩, ⟨by rw [← upto_same OL.out LT.out HG0.out]; exact HVO.out.mono ML2.out⟩⟩
          · have hg0 := HOI.out
            rw [if_pos rfl] at hg0
            have HG0 := Aside0.mk hg0
            clear hg0
            go_wp2_with fail
            obtain ⟨wd, ewd⟩ : ∃ x, x = w5.drew := ⟨_, rfl⟩
            have HD : Aside0 (Hq w [(gm, 25, #[.slice (some ad1) l1.length c1, .slice (some ad2) l2.length c2]), (gr, 30, #[.slice none 0 0, .slice none 0 0, .slice none 0 0]), (gs, 49, #[.slice A0 l0.length c0, .slice (some ad1) l1.length c1, .slice (some ad2) l2.length c2, .int .u64 sh, .int .u64 gv]), (gV, 30, #[.slice (some ⟨gG, 0, none⟩) l0.length l0.length, .slice (some ⟨gO, 0, none⟩) l0.length l0.length, .slice (some ⟨gL, 0, none⟩) l0.length l0.length])] ((35, .slice (some ⟨gM, 0, none⟩) l0.length l0.length, (List.replicate l0.length (.slice none 0 0))) :: (35, .slice (some ⟨gG, 0, none⟩) l0.length l0.length, Gv2) :: (35, .slice (some ⟨gO, 0, none⟩) l0.length l0.length, Ov) :: (22, .slice (some ⟨gL, 0, none⟩) l0.length l0.length, (Lv.set i (.slice (some ⟨gM, 0, none⟩) l0.length l0.length))) :: mids) Lf2 wd) := ⟨by rw [ewd]; exact (H9.out.below HB.out).drew⟩
            refine start_ (n := 11) (S := fun w' => w'.cell? ⟨gV, 1, none⟩ = some (.slice (some ⟨gO, 0, none⟩) l0.length l0.length) ∧ w'.cell? ⟨gm, 0, none⟩ = some (.slice (some ad1) l1.length c1) ∧ w'.cell? (ad1.add i) = some (.slice Ax (rdV l1 (i : Int)).length cx)) (ds := [10]) #[false, false, false, false, false, false, false, false, false, false, false] (by kernel_rfl) rfl rfl (by rw [← ewd]; exact ⟨(cells3 (HD.out.get 3 rfl)).2.1, (cells2 (HD.out.get 0 rfl)).1, pw_cell_below HD.out.hb HX.out.1⟩) (fun hHeld => ?_)
            rw [← ewd] at hHeld ⊢
            clear ewd
            refine pure_ (i := 0) (N := some 63) (v := ?_) (a' := ?_) #[true, false, false, false, false, false, false, false, false, false, false] rfl rfl (by kernel_rfl) (fun _ _ _ h => h) (Or.inl ⟨by rfl, ?_⟩) ?_ ?_
            rotate_left
            · intro w'
              go_simp
              with_reducible rfl
            rotate_left
            · simp only [Act.put, List.setIfInBounds_toArray, List.set_cons_zero, List.set_cons_succ, i64_w, i32_w]
              rfl
            refine pure_ (i := 2) (N := some 65) (v := ?_) (a' := ?_) #[true, false, true, false, false, false, false, false, false, false, false] rfl rfl (by kernel_rfl) (fun _ _ _ h => h) (Or.inl ⟨by rfl, ?_⟩) ?_ ?_
            rotate_left
            · intro w'
              go_simp
              with_reducible rfl
            rotate_left
            · simp only [Act.put, List.setIfInBounds_toArray, List.set_cons_zero, List.set_cons_succ, i64_w, i32_w]
              rfl
            refine pure_ (i := 3) (N := some 66) (v := ?_) (a' := ?_) #[true, false, true, true, false, false, false, false, false, false, false] rfl rfl (by kernel_rfl) (fun _ _ _ h => h) (Or.inl ⟨by rfl, ?_⟩) ?_ ?_
            rotate_left
            · intro w'
              go_simp
              with_reducible rfl
            rotate_left
            · simp only [Act.put, List.setIfInBounds_toArray, List.set_cons_zero, List.set_cons_succ, i64_w, i32_w]
              rfl
            refine pure_ (i := 5) (N := some 68) (v := ?_) (a' := ?_) #[true, false, true, true, false, true, false, false, false, false, false] rfl rfl (by kernel_rfl) (fun _ _ _ h => h) (Or.inl ⟨by rfl, ?_⟩) ?_ ?_
            rotate_left
            · intro w'
              go_simp
              with_reducible rfl
            rotate_left
            · simp only [Act.put, List.setIfInBounds_toArray, List.set_cons_zero, List.set_cons_succ, i64_w, i32_w]
              rfl
            refine take_ (i := 1) (N := some 64) (v := ?_) (a' := ?_) #[true, true, true, true, false, true, false, false, false, false, false] rfl rfl (by kernel_rfl) (fun _ _ _ h => h) (Or.inl ⟨by rfl, ?_⟩) hHeld ?_ ?_
            rotate_left
            · rintro w' ⟨s0, s1, s2⟩
              go_simp
              with_reducible rfl
            rotate_left
            · simp only [Act.put, List.setIfInBounds_toArray, List.set_cons_zero, List.set_cons_succ, i64_w, i32_w]
              rfl
            refine take_ (i := 4) (N := some 67) (v := ?_) (a' := ?_) #[true, true, true, true, true, true, false, false, false, false, false] rfl rfl (by kernel_rfl) (fun _ _ _ h => h) (Or.inl ⟨by rfl, ?_⟩) hHeld ?_ ?_
            rotate_left
            · rintro w' ⟨s0, s1, s2⟩
              go_simp
              with_reducible rfl
            rotate_left
            · simp only [Act.put, List.setIfInBounds_toArray, List.set_cons_zero, List.set_cons_succ, i64_w, i32_w]
              rfl
            refine pure_ (i := 6) (N := some 69) (v := ?_) (a' := ?_) #[true, true, true, true, true, true, true, false, false, false, false] rfl rfl (by kernel_rfl) (fun _ _ _ h => h) (Or.inl ⟨by rfl, ?_⟩) ?_ ?_
            rotate_left
            · intro w'
              go_simp
              with_reducible rfl
            rotate_left
            · simp only [Act.put, List.setIfInBounds_toArray, List.set_cons_zero, List.set_cons_succ, i64_w, i32_w]
              rfl
            refine take_ (i := 7) (N := some 70) (v := ?_) (a' := ?_) #[true, true, true, true, true, true, true, true, false, false, false] rfl rfl (by kernel_rfl) (fun _ _ _ h => h) (Or.inl ⟨by rfl, ?_⟩) hHeld ?_ ?_
            rotate_left
            · rintro w' ⟨s0, s1, s2⟩
              go_simp
              with_reducible rfl
            rotate_left
            · simp only [Act.put, List.setIfInBounds_toArray, List.set_cons_zero, List.set_cons_succ, i64_w, i32_w]
              rfl
            refine one_ (i := 8) (N := some 71) #[true, true, true, true, true, true, true, true, true, false, false] rfl rfl (by kernel_rfl) (by decide) (fun K hK => ?_)
            refine goes_ Tryd.func24 (by kernel_rfl) rfl #[.slice Ax (rdV l1 (i : Int)).length cx] (by rfl) rfl rfl (by (try simp only [List.map_toArray, List.map_cons, List.map_nil]); first | done | rfl) ?_
            with_reducible refine (slices_Clone_uint32_uint32.calls Ax cx (rdV l1 (i : Int)) (Os.getD i []) wd (Kd.C_below HX.out.2.2 HD.out.hb) HX.out.2.1 HG0.out).mono ?_
            rintro e w6 ⟨vg, rfl, hR, hb⟩
            obtain ⟨Ag, cg, rfl⟩ := Kd.R_slice hR
            have H11 := Aside0.mk (HD.out.made hb hR)
            clear hR hb
            refine ⟨_, rfl, ?_⟩
            refine hK.out _ _ ⟨(cells3 (H11.out.get 3 rfl)).2.1, (cells2 (H11.out.get 0 rfl)).1, pw_cell_below H11.out.hb HX.out.1⟩ (fun hHeld => ?_)
            clear hK K
            refine norm_ (a' := ?_) ?_ ?_
            rotate_left
            · show Act.put _ (some 71) _ = _
              simp only [Act.put, List.setIfInBounds_toArray, List.set_cons_zero, List.set_cons_succ, i64_w, i32_w]
              rfl
            refine pure_ (i := 9) (N := some 72) (v := ?_) (a' := ?_) #[true, true, true, true, true, true, true, true, true, true, false] rfl rfl (by kernel_rfl) (fun _ _ _ h => h) (Or.inl ⟨by rfl, ?_⟩) ?_ ?_
            rotate_left
            · intro w'
              go_simp
              with_reducible rfl
            rotate_left
            · simp only [Act.put, List.setIfInBounds_toArray, List.set_cons_zero, List.set_cons_succ, i64_w, i32_w]
              rfl
            refine last_ (i := 10) (N := none) #[true, true, true, true, true, true, true, true, true, true, true] rfl rfl (by kernel_rfl) (by decide) (fun K hK => ?_)
            obtain ⟨y0, z0⟩ := H11.out.cell 2 rfl i HLU.out.2.2
            refine skip_ (w1 := ?_) ?_ ?_ ?_ ?_
            rotate_left
            · rfl
            · rfl
            · go_simp
              rfl
            refine hK.out _ _ ?_
            clear hK K
            refine done_ (by kernel_rfl) ?_
            refine exit_gen (fun W => Hq w [(gm, 25, #[.slice (some ad1) l1.length c1, .slice (some ad2) l2.length c2]), (gr, 30, #[.slice none 0 0, .slice none 0 0, .slice none 0 0]), (gs, 49, #[.slice A0 l0.length c0, .slice (some ad1) l1.length c1, .slice (some ad2) l2.length c2, .int .u64 sh, .int .u64 gv]), (gV, 30, #[.slice (some ⟨gG, 0, none⟩) l0.length l0.length, .slice (some ⟨gO, 0, none⟩) l0.length l0.length, .slice (some ⟨gL, 0, none⟩) l0.length l0.length])] ((35, .slice (some ⟨gM, 0, none⟩) l0.length l0.length, (List.replicate l0.length (.slice none 0 0))) :: (35, .slice (some ⟨gG, 0, none⟩) l0.length l0.length, Gv2) :: (35, .slice (some ⟨gO, 0, none⟩) l0.length l0.length, Ov.set i (.slice Ag (Os.getD i []).length cg)) :: (22, .slice (some ⟨gL, 0, none⟩) l0.length l0.length, (Lv.set i (.slice (some ⟨gM, 0, none⟩) l0.length l0.length))) :: mids) (LfA Lf2 (.slice Ag (Os.getD i []).length cg) (Os.getD i [])) W) (H11.out.rput 2 rfl i (get_lt HLU.out.2.2) _) ?_
            clear hHeld HD H11 y0 z0
            intro w13 hL
            have H12 := Aside0.mk hL
            clear hL
            go_wp2_with fail
            go_meet
            case rel => exact ⟨_, _, H12, ⟨fun _ _ h => Or.inl h⟩, ⟨by rw [← upto_set OL.out LT.out]; exact ((HVO.out.mono ML2.out).add _ _).set i (Or.inr ⟨rfl, rfl⟩)⟩⟩
        case rest =>
          clear H9 HB HVO HOI HBO
          obtain ⟨Ov2, Lf3, H9, ML3, HVO⟩ := hcut
          have HW1 := Aside0.mk hw1
          clear hw1
          go_wp2_with fail
          go_loopg [15] (l0.length - (i + 1)) (fun kq v15 w' => ∃ (j : Nat) (Cv : List Value) (Lf4 : Value → List Int → Prop), v15 = .int .i64 (j : Int) ∧ Aside0 (j + kq = l0.length) ∧ Aside0 (i < j) ∧ Aside0 (Hq w [(gm, 25, #[.slice (some ad1) l1.length c1, .slice (some ad2) l2.length c2]), (gr, 30, #[.slice none 0 0, .slice none 0 0, .slice none 0 0]), (gs, 49, #[.slice A0 l0.length c0, .slice (some ad1) l1.length c1, .slice (some ad2) l2.length c2, .int .u64 sh, .int .u64 gv]), (gV, 30, #[.slice (some ⟨gG, 0, none⟩) l0.length l0.length, .slice (some ⟨gO, 0, none⟩) l0.length l0.length, .slice (some ⟨gL, 0, none⟩) l0.length l0.length])] ((35, .slice (some ⟨gM, 0, none⟩) l0.length l0.length, Cv) :: (35, .slice (some ⟨gG, 0, none⟩) l0.length l0.length, Gv2) :: (35, .slice (some ⟨gO, 0, none⟩) l0.length l0.length, Ov2) :: (22, .slice (some ⟨gL, 0, none⟩) l0.length l0.length, (Lv.set i (.slice (some ⟨gM, 0, none⟩) l0.length l0.length))) :: mids) Lf4 w') ∧ Aside0 (∀ v x, Lf3 v x → Lf4 v x) ∧ Aside0 (RV Lf4 Cv (upto l0.length j (Ls.getD i []))))
          case atStart => exact ⟨i + 1, _, Lf3, by first | rfl | (rw [EW.out]) | (rw [EI.out]; rfl), ⟨by have := LT.out; omega⟩, ⟨Nat.lt_succ_self i⟩, H9, ⟨fun _ _ h => h⟩, ⟨by
            rw [upto_first (i + 1) (L3.out i LT.out) (by have := LT.out; omega) (fun j hj => ?_)]
            · exact RV.reps _ (ML3.out _ _ (ML2.out _ _ HN.out))
            · have h := HL.out i j LT.out (by have := LT.out; omega)
              unfold seeL at h
              rw [if_pos (by omega)] at h
              exact (Option.some.inj h).symm⟩⟩
          case round =>
            clear H9
            obtain ⟨j, Cv, Lf4, rfl, HJ, HIJ, H9, ML4, HVC⟩ := hrel
            have hj := HJ.out
            cases gk with
            | zero =>
              obtain rfl : j = l0.length := by omega
              have d3 : decide ((l0.length : Int) < (l0.length : Int)) = false := decide_eq_false (by omega)
              have HVF := Aside0.mk (show RV Lf4 Cv (Ls.getD i []) by have h := HVC.out; rwa [upto_all (L3.out i LT.out)] at h)
              clear hj HVC
              go_wp2_with fail
              go_roundg k1
              case measure => omega
              case rel => exact ⟨i + 1, Gv2, Ov2, _, (35, .slice (some ⟨gM, 0, none⟩) l0.length l0.length, Cv) :: mids, Lf4, by first | rfl | (rw [EW.out]), ⟨by have := HI.out; omega⟩, ⟨H9.out.rot⟩, ⟨ML4.out _ _ (ML3.out _ _ (ML2.out _ _ HN.out))⟩, ⟨HVG.out.mono fun _ _ h => ML4.out _ _ (ML3.out _ _ h)⟩, ⟨HVO.out.mono ML4.out⟩, ⟨by
                rw [← upto_set LL.out LT.out]
                exact ((HVL.out.lf fun _ _ h => ML4.out _ _ (ML3.out _ _ (ML2.out _ _ h))).up (rs' := (35, .slice (some ⟨gM, 0, none⟩) l0.length l0.length, Cv) :: mids) (fun m r hm => ⟨m + 1, hm⟩)).set i (m := 0) rfl HVF.out⟩⟩
            | succ k2 =>
              have hlj : j < l0.length := by omega
              have hnn := NN.out
              have p4 : 0 ≤ (j : Int) := by omega
              have q4 : (j : Int) < ((rdM l2 (i : Int)).length : Int) := by have := HY.out.2.2.2; omega
              have q5 : (j : Int) < (l0.length : Int) := by omega
              have d3 : decide ((j : Int) < (l0.length : Int)) = true := decide_eq_true q5
              have d4 : decide (j < l0.length) = true := decide_eq_true hlj
              have EJ : Aside0 (wrap64 ((j : Int) + 1) = ((j + 1 : Nat) : Int)) := ⟨by unfold wrap64; omega⟩
              obtain ⟨j1, ej1⟩ : ∃ x, x = (j : Int) + 1 := ⟨_, rfl⟩
              have hw2 : wrap64 ((j : Int) + 1) = j1 := by unfold wrap64; omega
              have EJ1 := Aside0.mk ej1
              obtain ⟨_, Az, cz, ez, hz0, hzl, hzr⟩ := at_V HY.out.2.2.1 (j : Int) p4 q4
              cases ez
              rw [Int.toNat_natCast] at hz0
              have HZ := Aside0.mk (And.intro hz0 (And.intro hzl hzr))
              obtain ⟨Cu, hCu⟩ : ∃ u, Cv[j]? = some u := ⟨_, List.getElem?_eq_getElem (show j < Cv.length by rw [HVC.out.1, upto_len (L3.out i LT.out) (by omega)]; exact hlj)⟩
              have HCU := Aside0.mk hCu
              have hli := HL.out i j LT.out hlj
              unfold seeL at hli
              rw [if_neg (by have := HIJ.out; omega), ← EI.out, ← HW1.out, ← ej1] at hli
              obtain ⟨ba, ha, hli⟩ := Option.bind_eq_some_iff.mp hli
              obtain ⟨bb, hb, hli⟩ := Option.bind_eq_some_iff.mp hli
              obtain ⟨bc, hc, hli⟩ := Option.bind_eq_some_iff.mp hli
              obtain ⟨bd, hd, hli⟩ := Option.bind_eq_some_iff.mp hli
              have HA := Aside0.mk ha
              have HBb := Aside0.mk hb
              have HCc := Aside0.mk hc
              have HDd := Aside0.mk hd
              have HLI := Aside0.mk hli
              have LTJ := Aside0.mk hlj
              have HB := Aside0.mk (Below.refl wr.heap.size wr)
              replace p4 := eq_true p4
              replace q4 := eq_true q4
              replace q5 := eq_true q5
              clear hj hlj hnn ej1 hz0 hzl hzr hCu hli ha hb hc hd
              cases ba
              · have hg0 := HLI.out
                rw [if_neg (by simp)] at hg0
                have HG0 := Aside0.mk (Option.some.inj hg0).symm
                clear hg0
                go_wp2_with (first | (go_at_call 22; (with_reducible refine (crowd_Has.calls sh (wrap64 ((i : Int) + 1)) _ _ HA.out).mono ?_); rintro e w5 ⟨rfl, hd⟩; have HB := Aside0.mk (below_step HB.out (below_drawn hd)); clear hd) | (go_at_call 22; (with_reducible refine (crowd_Has.calls sh j1 _ _ HBb.out).mono ?_); rintro e w5 ⟨rfl, hd⟩; have HB := Aside0.mk (below_step HB.out (below_drawn hd)); clear hd) | (go_at_call 22; (with_reducible refine (crowd_Has.calls gv (wrap64 ((i : Int) + 1)) _ _ HCc.out).mono ?_); rintro e w5 ⟨rfl, hd⟩; have HB := Aside0.mk (below_step HB.out (below_drawn hd)); clear hd) | (go_at_call 22; (with_reducible refine (crowd_Has.calls gv j1 _ _ HDd.out).mono ?_); rintro e w5 ⟨rfl, hd⟩; have HB := Aside0.mk (below_step HB.out (below_drawn hd)); clear hd))
                go_roundg k2
                case measure => omega
                case rel => exact ⟨j + 1, Cv, Lf4, by first | rfl | (rw [EJ.out]), ⟨by have := HJ.out; omega⟩, ⟨by have := HIJ.out; omega⟩, ⟨H9.out.below HB.out⟩, ML4, ⟨by rw [← upto_same (L3.out i LT.out) LTJ.out HG0.out]; exact HVC.out⟩⟩
              · cases bb
                · have hg0 := HLI.out
                  rw [if_neg (by simp)] at hg0
                  have HG0 := Aside0.mk (Option.some.inj hg0).symm
                  clear hg0
                  go_wp2_with (first | (go_at_call 22; (with_reducible refine (crowd_Has.calls sh (wrap64 ((i : Int) + 1)) _ _ HA.out).mono ?_); rintro e w5 ⟨rfl, hd⟩; have HB := Aside0.mk (below_step HB.out (below_drawn hd)); clear hd) | (go_at_call 22; (with_reducible refine (crowd_Has.calls sh j1 _ _ HBb.out).mono ?_); rintro e w5 ⟨rfl, hd⟩; have HB := Aside0.mk (below_step HB.out (below_drawn hd)); clear hd) | (go_at_call 22; (with_reducible refine (crowd_Has.calls gv (wrap64 ((i : Int) + 1)) _ _ HCc.out).mono ?_); rintro e w5 ⟨rfl, hd⟩; have HB := Aside0.mk (below_step HB.out (below_drawn hd)); clear hd) | (go_at_call 22; (with_reducible refine (crowd_Has.calls gv j1 _ _ HDd.out).mono ?_); rintro e w5 ⟨rfl, hd⟩; have HB := Aside0.mk (below_step HB.out (below_drawn hd)); clear hd))
                  go_roundg k2
                  case measure => omega
                  case rel => exact ⟨j + 1, Cv, Lf4, by first | rfl | (rw [EJ.out]), ⟨by have := HJ.out; omega⟩, ⟨by have := HIJ.out; omega⟩, ⟨H9.out.below HB.out⟩, ML4, ⟨by rw [← upto_same (L3.out i LT.out) LTJ.out HG0.out]; exact HVC.out⟩⟩
                · cases bc
                  · have hg0 := HLI.out
                    rw [if_pos (by simp)] at hg0
                    have HG0 := Aside0.mk hg0
                    clear hg0
                    have HLM : Aside0 ((Lv.set i (.slice (some ⟨gM, 0, none⟩) l0.length l0.length))[i]? = some (.slice (some ⟨gM, 0, none⟩) l0.length l0.length)) := ⟨List.getElem?_set_self (get_lt HLU.out.1)⟩
                    go_wp2_with (first | (go_at_call 22; (with_reducible refine (crowd_Has.calls sh (wrap64 ((i : Int) + 1)) _ _ HA.out).mono ?_); rintro e w5 ⟨rfl, hd⟩; have HB := Aside0.mk (below_step HB.out (below_drawn hd)); clear hd) | (go_at_call 22; (with_reducible refine (crowd_Has.calls sh j1 _ _ HBb.out).mono ?_); rintro e w5 ⟨rfl, hd⟩; have HB := Aside0.mk (below_step HB.out (below_drawn hd)); clear hd) | (go_at_call 22; (with_reducible refine (crowd_Has.calls gv (wrap64 ((i : Int) + 1)) _ _ HCc.out).mono ?_); rintro e w5 ⟨rfl, hd⟩; have HB := Aside0.mk (below_step HB.out (below_drawn hd)); clear hd) | (go_at_call 22; (with_reducible refine (crowd_Has.calls gv j1 _ _ HDd.out).mono ?_); rintro e w5 ⟨rfl, hd⟩; have HB := Aside0.mk (below_step HB.out (below_drawn hd)); clear hd))
                    obtain ⟨wd, ewd⟩ : ∃ x, x = w5.drew := ⟨_, rfl⟩
                    have HD : Aside0 (Hq w [(gm, 25, #[.slice (some ad1) l1.length c1, .slice (some ad2) l2.length c2]), (gr, 30, #[.slice none 0 0, .slice none 0 0, .slice none 0 0]), (gs, 49, #[.slice A0 l0.length c0, .slice (some ad1) l1.length c1, .slice (some ad2) l2.length c2, .int .u64 sh, .int .u64 gv]), (gV, 30, #[.slice (some ⟨gG, 0, none⟩) l0.length l0.length, .slice (some ⟨gO, 0, none⟩) l0.length l0.length, .slice (some ⟨gL, 0, none⟩) l0.length l0.length])] ((35, .slice (some ⟨gM, 0, none⟩) l0.length l0.length, Cv) :: (35, .slice (some ⟨gG, 0, none⟩) l0.length l0.length, Gv2) :: (35, .slice (some ⟨gO, 0, none⟩) l0.length l0.length, Ov2) :: (22, .slice (some ⟨gL, 0, none⟩) l0.length l0.length, (Lv.set i (.slice (some ⟨gM, 0, none⟩) l0.length l0.length))) :: mids) Lf4 wd) := ⟨by rw [ewd]; exact (H9.out.below HB.out).drew⟩
                    refine start_ (n := 17) (S := fun w' => w'.cell? ⟨gV, 2, none⟩ = some (.slice (some ⟨gL, 0, none⟩) l0.length l0.length) ∧ w'.cell? ⟨gL, i, none⟩ = some (.slice (some ⟨gM, 0, none⟩) l0.length l0.length) ∧ w'.cell? ⟨gm, 1, none⟩ = some (.slice (some ad2) l2.length c2) ∧ w'.cell? (ad2.add i) = some (.slice (some ady) (rdM l2 (i : Int)).length cy) ∧ w'.cell? (ady.add j) = some (.slice Az (rdV (rdM l2 (i : Int)) (j : Int)).length cz)) (ds := [16]) #[false, false, false, false, false, false, false, false, false, false, false, false, false, false, false, false, false] (by kernel_rfl) rfl rfl (by rw [← ewd]; exact ⟨(cells3 (HD.out.get 3 rfl)).2.2.1, (HD.out.cell 3 rfl i HLM.out).1, (cells2 (HD.out.get 0 rfl)).2.1, pw_cell_below HD.out.hb HY.out.1, pw_cell_below HD.out.hb HZ.out.1⟩) (fun hHeld => ?_)
                    rw [← ewd] at hHeld ⊢
                    clear ewd
                    refine pure_ (i := 0) (N := some 104) (v := ?_) (a' := ?_) #[true, false, false, false, false, false, false, false, false, false, false, false, false, false, false, false, false] rfl rfl (by kernel_rfl) (fun _ _ _ h => h) (Or.inl ⟨by rfl, ?_⟩) ?_ ?_
                    rotate_left
                    · intro w'
                      go_simp
                      with_reducible rfl
                    rotate_left
                    · simp only [Act.put, List.setIfInBounds_toArray, List.set_cons_zero, List.set_cons_succ, i64_w, i32_w]
                      rfl
                    refine pure_ (i := 2) (N := some 106) (v := ?_) (a' := ?_) #[true, false, true, false, false, false, false, false, false, false, false, false, false, false, false, false, false] rfl rfl (by kernel_rfl) (fun _ _ _ h => h) (Or.inl ⟨by rfl, ?_⟩) ?_ ?_
                    rotate_left
                    · intro w'
                      go_simp
                      with_reducible rfl
                    rotate_left
                    · simp only [Act.put, List.setIfInBounds_toArray, List.set_cons_zero, List.set_cons_succ, i64_w, i32_w]
                      rfl
                    refine pure_ (i := 5) (N := some 109) (v := ?_) (a' := ?_) #[true, false, true, false, false, true, false, false, false, false, false, false, false, false, false, false, false] rfl rfl (by kernel_rfl) (fun _ _ _ h => h) (Or.inl ⟨by rfl, ?_⟩) ?_ ?_
                    rotate_left
                    · intro w'
                      go_simp
                      with_reducible rfl
                    rotate_left
                    · simp only [Act.put, List.setIfInBounds_toArray, List.set_cons_zero, List.set_cons_succ, i64_w, i32_w]
                      rfl
                    refine pure_ (i := 6) (N := some 110) (v := ?_) (a' := ?_) #[true, false, true, false, false, true, true, false, false, false, false, false, false, false, false, false, false] rfl rfl (by kernel_rfl) (fun _ _ _ h => h) (Or.inl ⟨by rfl, ?_⟩) ?_ ?_
                    rotate_left
                    · intro w'
                      go_simp
                      with_reducible rfl
                    rotate_left
                    · simp only [Act.put, List.setIfInBounds_toArray, List.set_cons_zero, List.set_cons_succ, i64_w, i32_w]
                      rfl
                    refine pure_ (i := 8) (N := some 112) (v := ?_) (a' := ?_) #[true, false, true, false, false, true, true, false, true, false, false, false, false, false, false, false, false] rfl rfl (by kernel_rfl) (fun _ _ _ h => h) (Or.inl ⟨by rfl, ?_⟩) ?_ ?_
                    rotate_left
                    · intro w'
                      go_simp
                      with_reducible rfl
                    rotate_left
                    · simp only [Act.put, List.setIfInBounds_toArray, List.set_cons_zero, List.set_cons_succ, i64_w, i32_w]
                      rfl
                    refine pure_ (i := 11) (N := some 115) (v := ?_) (a' := ?_) #[true, false, true, false, false, true, true, false, true, false, false, true, false, false, false, false, false] rfl rfl (by kernel_rfl) (fun _ _ _ h => h) (Or.inl ⟨by rfl, ?_⟩) ?_ ?_
                    rotate_left
                    · intro w'
                      go_simp
                      with_reducible rfl
                    rotate_left
                    · simp only [Act.put, List.setIfInBounds_toArray, List.set_cons_zero, List.set_cons_succ, i64_w, i32_w]
                      rfl
                    refine take_ (i := 1) (N := some 105) (v := ?_) (a' := ?_) #[true, true, true, false, false, true, true, false, true, false, false, true, false, false, false, false, false] rfl rfl (by kernel_rfl) (fun _ _ _ h => h) (Or.inl ⟨by rfl, ?_⟩) hHeld ?_ ?_
                    rotate_left
                    · rintro w' ⟨s0, s1, s2, s3, s4⟩
                      go_simp
                      with_reducible rfl
                    rotate_left
                    · simp only [Act.put, List.setIfInBounds_toArray, List.set_cons_zero, List.set_cons_succ, i64_w, i32_w]
                      rfl
                    refine pure_ (i := 3) (N := some 107) (v := ?_) (a' := ?_) #[true, true, true, true, false, true, true, false, true, false, false, true, false, false, false, false, false] rfl rfl (by kernel_rfl) (fun _ _ _ h => h) (Or.inl ⟨by rfl, ?_⟩) ?_ ?_
                    rotate_left
                    · intro w'
                      go_simp
                      with_reducible rfl
                    rotate_left
                    · simp only [Act.put, List.setIfInBounds_toArray, List.set_cons_zero, List.set_cons_succ, i64_w, i32_w]
                      rfl
                    refine take_ (i := 4) (N := some 108) (v := ?_) (a' := ?_) #[true, true, true, true, true, true, true, false, true, false, false, true, false, false, false, false, false] rfl rfl (by kernel_rfl) (fun _ _ _ h => h) (Or.inl ⟨by rfl, ?_⟩) hHeld ?_ ?_
                    rotate_left
                    · rintro w' ⟨s0, s1, s2, s3, s4⟩
                      go_simp
                      with_reducible rfl
                    rotate_left
                    · simp only [Act.put, List.setIfInBounds_toArray, List.set_cons_zero, List.set_cons_succ, i64_w, i32_w]
                      rfl
                    refine take_ (i := 7) (N := some 111) (v := ?_) (a' := ?_) #[true, true, true, true, true, true, true, true, true, false, false, true, false, false, false, false, false] rfl rfl (by kernel_rfl) (fun _ _ _ h => h) (Or.inl ⟨by rfl, ?_⟩) hHeld ?_ ?_
                    rotate_left
                    · rintro w' ⟨s0, s1, s2, s3, s4⟩
                      go_simp
                      with_reducible rfl
                    rotate_left
                    · simp only [Act.put, List.setIfInBounds_toArray, List.set_cons_zero, List.set_cons_succ, i64_w, i32_w]
                      rfl
                    refine pure_ (i := 9) (N := some 113) (v := ?_) (a' := ?_) #[true, true, true, true, true, true, true, true, true, true, false, true, false, false, false, false, false] rfl rfl (by kernel_rfl) (fun _ _ _ h => h) (Or.inl ⟨by rfl, ?_⟩) ?_ ?_
                    rotate_left
                    · intro w'
                      go_simp
                      with_reducible rfl
                    rotate_left
                    · simp only [Act.put, List.setIfInBounds_toArray, List.set_cons_zero, List.set_cons_succ, i64_w, i32_w]
                      rfl
                    refine take_ (i := 10) (N := some 114) (v := ?_) (a' := ?_) #[true, true, true, true, true, true, true, true, true, true, true, true, false, false, false, false, false] rfl rfl (by kernel_rfl) (fun _ _ _ h => h) (Or.inl ⟨by rfl, ?_⟩) hHeld ?_ ?_
                    rotate_left
                    · rintro w' ⟨s0, s1, s2, s3, s4⟩
                      go_simp
                      with_reducible rfl
                    rotate_left
                    · simp only [Act.put, List.setIfInBounds_toArray, List.set_cons_zero, List.set_cons_succ, i64_w, i32_w]
                      rfl
                    refine pure_ (i := 12) (N := some 116) (v := ?_) (a' := ?_) #[true, true, true, true, true, true, true, true, true, true, true, true, true, false, false, false, false] rfl rfl (by kernel_rfl) (fun _ _ _ h => h) (Or.inl ⟨by rfl, ?_⟩) ?_ ?_
                    rotate_left
                    · intro w'
                      go_simp
                      with_reducible rfl
                    rotate_left
                    · simp only [Act.put, List.setIfInBounds_toArray, List.set_cons_zero, List.set_cons_succ, i64_w, i32_w]
                      rfl
                    refine take_ (i := 13) (N := some 117) (v := ?_) (a' := ?_) #[true, true, true, true, true, true, true, true, true, true, true, true, true, true, false, false, false] rfl rfl (by kernel_rfl) (fun _ _ _ h => h) (Or.inl ⟨by rfl, ?_⟩) hHeld ?_ ?_
                    rotate_left
                    · rintro w' ⟨s0, s1, s2, s3, s4⟩
                      go_simp
                      with_reducible rfl
                    rotate_left
                    · simp only [Act.put, List.setIfInBounds_toArray, List.set_cons_zero, List.set_cons_succ, i64_w, i32_w]
                      rfl
                    refine one_ (i := 14) (N := some 118) #[true, true, true, true, true, true, true, true, true, true, true, true, true, true, true, false, false] rfl rfl (by kernel_rfl) (by decide) (fun K hK => ?_)
                    refine goes_ Tryd.func24 (by kernel_rfl) rfl #[.slice Az (rdV (rdM l2 (i : Int)) (j : Int)).length cz] (by rfl) rfl rfl (by (try simp only [List.map_toArray, List.map_cons, List.map_nil]); first | done | rfl) ?_
                    with_reducible refine (slices_Clone_uint32_uint32.calls Az cz (rdV (rdM l2 (i : Int)) (j : Int)) ((Ls.getD i []).getD j []) wd (Kd.C_below HZ.out.2.2 HD.out.hb) HZ.out.2.1 HG0.out).mono ?_
                    rintro e w6 ⟨vg, rfl, hR, hb⟩
                    obtain ⟨Ag, cg, rfl⟩ := Kd.R_slice hR
                    have H11 := Aside0.mk (HD.out.made hb hR)
                    clear hR hb
                    refine ⟨_, rfl, ?_⟩
                    refine hK.out _ _ ⟨(cells3 (H11.out.get 3 rfl)).2.2.1, (H11.out.cell 3 rfl i HLM.out).1, (cells2 (H11.out.get 0 rfl)).2.1, pw_cell_below H11.out.hb HY.out.1, pw_cell_below H11.out.hb HZ.out.1⟩ (fun hHeld => ?_)
                    clear hK K
                    refine norm_ (a' := ?_) ?_ ?_
                    rotate_left
                    · show Act.put _ (some 118) _ = _
                      simp only [Act.put, List.setIfInBounds_toArray, List.set_cons_zero, List.set_cons_succ, i64_w, i32_w]
                      rfl
                    refine pure_ (i := 15) (N := some 119) (v := ?_) (a' := ?_) #[true, true, true, true, true, true, true, true, true, true, true, true, true, true, true, true, false] rfl rfl (by kernel_rfl) (fun _ _ _ h => h) (Or.inl ⟨by rfl, ?_⟩) ?_ ?_
                    rotate_left
                    · intro w'
                      go_simp
                      with_reducible rfl
                    rotate_left
                    · simp only [Act.put, List.setIfInBounds_toArray, List.set_cons_zero, List.set_cons_succ, i64_w, i32_w]
                      rfl
                    refine last_ (i := 16) (N := none) #[true, true, true, true, true, true, true, true, true, true, true, true, true, true, true, true, true] rfl rfl (by kernel_rfl) (by decide) (fun K hK => ?_)
                    obtain ⟨y0, z0⟩ := H11.out.cell 0 rfl j HCU.out
                    refine skip_ (w1 := ?_) ?_ ?_ ?_ ?_
                    rotate_left
                    · rfl
                    · rfl
                    · go_simp
                      rfl
                    refine hK.out _ _ ?_
                    clear hK K
                    refine done_ (by kernel_rfl) ?_
                    refine exit_gen (fun W => Hq w [(gm, 25, #[.slice (some ad1) l1.length c1, .slice (some ad2) l2.length c2]), (gr, 30, #[.slice none 0 0, .slice none 0 0, .slice none 0 0]), (gs, 49, #[.slice A0 l0.length c0, .slice (some ad1) l1.length c1, .slice (some ad2) l2.length c2, .int .u64 sh, .int .u64 gv]), (gV, 30, #[.slice (some ⟨gG, 0, none⟩) l0.length l0.length, .slice (some ⟨gO, 0, none⟩) l0.length l0.length, .slice (some ⟨gL, 0, none⟩) l0.length l0.length])] ((35, .slice (some ⟨gM, 0, none⟩) l0.length l0.length, (Cv.set j (.slice Ag ((Ls.getD i []).getD j []).length cg))) :: (35, .slice (some ⟨gG, 0, none⟩) l0.length l0.length, Gv2) :: (35, .slice (some ⟨gO, 0, none⟩) l0.length l0.length, Ov2) :: (22, .slice (some ⟨gL, 0, none⟩) l0.length l0.length, (Lv.set i (.slice (some ⟨gM, 0, none⟩) l0.length l0.length))) :: mids) (LfA Lf4 (.slice Ag ((Ls.getD i []).getD j []).length cg) ((Ls.getD i []).getD j [])) W) (H11.out.rput 0 rfl j (get_lt HCU.out) _) ?_
                    clear hHeld HD H11 y0 z0
                    intro w13 hL
                    have H12 := Aside0.mk hL
                    clear hL
                    go_wp2_with fail
                    go_roundg k2
                    case measure => omega
                    case rel => exact ⟨j + 1, _, _, by first | rfl | (rw [EJ.out]), ⟨by have := HJ.out; omega⟩, ⟨by have := HIJ.out; omega⟩, H12, ⟨fun _ _ h => Or.inl (ML4.out _ _ h)⟩, ⟨by rw [← upto_set (L3.out i LT.out) LTJ.out]; exact (HVC.out.add _ _).set j (Or.inr ⟨rfl, rfl⟩)⟩⟩
                  · cases bd
                    · have hg0 := HLI.out
                      rw [if_pos (by simp)] at hg0
                      have HG0 := Aside0.mk hg0
                      clear hg0
                      have HLM : Aside0 ((Lv.set i (.slice (some ⟨gM, 0, none⟩) l0.length l0.length))[i]? = some (.slice (some ⟨gM, 0, none⟩) l0.length l0.length)) := ⟨List.getElem?_set_self (get_lt HLU.out.1)⟩
                      go_wp2_with (first | (go_at_call 22; (with_reducible refine (crowd_Has.calls sh (wrap64 ((i : Int) + 1)) _ _ HA.out).mono ?_); rintro e w5 ⟨rfl, hd⟩; have HB := Aside0.mk (below_step HB.out (below_drawn hd)); clear hd) | (go_at_call 22; (with_reducible refine (crowd_Has.calls sh j1 _ _ HBb.out).mono ?_); rintro e w5 ⟨rfl, hd⟩; have HB := Aside0.mk (below_step HB.out (below_drawn hd)); clear hd) | (go_at_call 22; (with_reducible refine (crowd_Has.calls gv (wrap64 ((i : Int) + 1)) _ _ HCc.out).mono ?_); rintro e w5 ⟨rfl, hd⟩; have HB := Aside0.mk (below_step HB.out (below_drawn hd)); clear hd) | (go_at_call 22; (with_reducible refine (crowd_Has.calls gv j1 _ _ HDd.out).mono ?_); rintro e w5 ⟨rfl, hd⟩; have HB := Aside0.mk (below_step HB.out (below_drawn hd)); clear hd))
                      obtain ⟨wd, ewd⟩ : ∃ x, x = w5.drew := ⟨_, rfl⟩
                      have HD : Aside0 (Hq w [(gm, 25, #[.slice (some ad1) l1.length c1, .slice (some ad2) l2.length c2]), (gr, 30, #[.slice none 0 0, .slice none 0 0, .slice none 0 0]), (gs, 49, #[.slice A0 l0.length c0, .slice (some ad1) l1.length c1, .slice (some ad2) l2.length c2, .int .u64 sh, .int .u64 gv]), (gV, 30, #[.slice (some ⟨gG, 0, none⟩) l0.length l0.length, .slice (some ⟨gO, 0, none⟩) l0.length l0.length, .slice (some ⟨gL, 0, none⟩) l0.length l0.length])] ((35, .slice (some ⟨gM, 0, none⟩) l0.length l0.length, Cv) :: (35, .slice (some ⟨gG, 0, none⟩) l0.length l0.length, Gv2) :: (35, .slice (some ⟨gO, 0, none⟩) l0.length l0.length, Ov2) :: (22, .slice (some ⟨gL, 0, none⟩) l0.length l0.length, (Lv.set i (.slice (some ⟨gM, 0, none⟩) l0.length l0.length))) :: mids) Lf4 wd) := ⟨by rw [ewd]; exact (H9.out.below HB.out).drew⟩
                      refine start_ (n := 17) (S := fun w' => w'.cell? ⟨gV, 2, none⟩ = some (.slice (some ⟨gL, 0, none⟩) l0.length l0.length) ∧ w'.cell? ⟨gL, i, none⟩ = some (.slice (some ⟨gM, 0, none⟩) l0.length l0.length) ∧ w'.cell? ⟨gm, 1, none⟩ = some (.slice (some ad2) l2.length c2) ∧ w'.cell? (ad2.add i) = some (.slice (some ady) (rdM l2 (i : Int)).length cy) ∧ w'.cell? (ady.add j) = some (.slice Az (rdV (rdM l2 (i : Int)) (j : Int)).length cz)) (ds := [16]) #[false, false, false, false, false, false, false, false, false, false, false, false, false, false, false, false, false] (by kernel_rfl) rfl rfl (by rw [← ewd]; exact ⟨(cells3 (HD.out.get 3 rfl)).2.2.1, (HD.out.cell 3 rfl i HLM.out).1, (cells2 (HD.out.get 0 rfl)).2.1, pw_cell_below HD.out.hb HY.out.1, pw_cell_below HD.out.hb HZ.out.1⟩) (fun hHeld => ?_)
                      rw [← ewd] at hHeld ⊢
                      clear ewd
                      refine pure_ (i := 0) (N := some 104) (v := ?_) (a' := ?_) #[true, false, false, false, false, false, false, false, false, false, false, false, false, false, false, false, false] rfl rfl (by kernel_rfl) (fun _ _ _ h => h) (Or.inl ⟨by rfl, ?_⟩) ?_ ?_
                      rotate_left
                      · intro w'
                        go_simp
                        with_reducible rfl
                      rotate_left
                      · simp only [Act.put, List.setIfInBounds_toArray, List.set_cons_zero, List.set_cons_succ, i64_w, i32_w]
                        rfl
                      refine pure_ (i := 2) (N := some 106) (v := ?_) (a' := ?_) #[true, false, true, false, false, false, false, false, false, false, false, false, false, false, false, false, false] rfl rfl (by kernel_rfl) (fun _ _ _ h => h) (Or.inl ⟨by rfl, ?_⟩) ?_ ?_
                      rotate_left
                      · intro w'
                        go_simp
                        with_reducible rfl
                      rotate_left
                      · simp only [Act.put, List.setIfInBounds_toArray, List.set_cons_zero, List.set_cons_succ, i64_w, i32_w]
                        rfl
                      refine pure_ (i := 5) (N := some 109) (v := ?_) (a' := ?_) #[true, false, true, false, false, true, false, false, false, false, false, false, false, false, false, false, false] rfl rfl (by kernel_rfl) (fun _ _ _ h => h) (Or.inl ⟨by rfl, ?_⟩) ?_ ?_
                      rotate_left
                      · intro w'
                        go_simp
                        with_reducible rfl
                      rotate_left
                      · simp only [Act.put, List.setIfInBounds_toArray, List.set_cons_zero, List.set_cons_succ, i64_w, i32_w]
                        rfl
                      refine pure_ (i := 6) (N := some 110) (v := ?_) (a' := ?_) #[true, false, true, false, false, true, true, false, false, false, false, false, false, false, false, false, false] rfl rfl (by kernel_rfl) (fun _ _ _ h => h) (Or.inl ⟨by rfl, ?_⟩) ?_ ?_
                      rotate_left
                      · intro w'
                        go_simp
                        with_reducible rfl
                      rotate_left
                      · simp only [Act.put, List.setIfInBounds_toArray, List.set_cons_zero, List.set_cons_succ, i64_w, i32_w]
                        rfl
                      refine pure_ (i := 8) (N := some 112) (v := ?_) (a' := ?_) #[true, false, true, false, false, true, true, false, true, false, false, false, false, false, false, false, false] rfl rfl (by kernel_rfl) (fun _ _ _ h => h) (Or.inl ⟨by rfl, ?_⟩) ?_ ?_
                      rotate_left
                      · intro w'
                        go_simp
                        with_reducible rfl
                      rotate_left
                      · simp only [Act.put, List.setIfInBounds_toArray, List.set_cons_zero, List.set_cons_succ, i64_w, i32_w]
                        rfl
                      refine pure_ (i := 11) (N := some 115) (v := ?_) (a' := ?_) #[true, false, true, false, false, true, true, false, true, false, false, true, false, false, false, false, false] rfl rfl (by kernel_rfl) (fun _ _ _ h => h) (Or.inl ⟨by rfl, ?_⟩) ?_ ?_
                      rotate_left
                      · intro w'
                        go_simp
                        with_reducible rfl
                      rotate_left
                      · simp only [Act.put, List.setIfInBounds_toArray, List.set_cons_zero, List.set_cons_succ, i64_w, i32_w]
                        rfl
                      refine take_ (i := 1) (N := some 105) (v := ?_) (a' := ?_) #[true, true, true, false, false, true, true, false, true, false, false, true, false, false, false, false, false] rfl rfl (by kernel_rfl) (fun _ _ _ h => h) (Or.inl ⟨by rfl, ?_⟩) hHeld ?_ ?_
                      rotate_left
                      · rintro w' ⟨s0, s1, s2, s3, s4⟩
                        go_simp
                        with_reducible rfl
                      rotate_left
                      · simp only [Act.put, List.setIfInBounds_toArray, List.set_cons_zero, List.set_cons_succ, i64_w, i32_w]
                        rfl
                      refine pure_ (i := 3) (N := some 107) (v := ?_) (a' := ?_) #[true, true, true, true, false, true, true, false, true, false, false, true, false, false, false, false, false] rfl rfl (by kernel_rfl) (fun _ _ _ h => h) (Or.inl ⟨by rfl, ?_⟩) ?_ ?_
                      rotate_left
                      · intro w'
                        go_simp
                        with_reducible rfl
                      rotate_left
                      · simp only [Act.put, List.setIfInBounds_toArray, List.set_cons_zero, List.set_cons_succ, i64_w, i32_w]
                        rfl
                      refine take_ (i := 4) (N := some 108) (v := ?_) (a' := ?_) #[true, true, true, true, true, true, true, false, true, false, false, true, false, false, false, false, false] rfl rfl (by kernel_rfl) (fun _ _ _ h => h) (Or.inl ⟨by rfl, ?_⟩) hHeld ?_ ?_
                      rotate_left
                      · rintro w' ⟨s0, s1, s2, s3, s4⟩
                        go_simp
                        with_reducible rfl
                      rotate_left
                      · simp only [Act.put, List.setIfInBounds_toArray, List.set_cons_zero, List.set_cons_succ, i64_w, i32_w]
                        rfl
                      refine take_ (i := 7) (N := some 111) (v := ?_) (a' := ?_) #[true, true, true, true, true, true, true, true, true, false, false, true, false, false, false, false, false] rfl rfl (by kernel_rfl) (fun _ _ _ h => h) (Or.inl ⟨by rfl, ?_⟩) hHeld ?_ ?_
                      rotate_left
                      · rintro w' ⟨s0, s1, s2, s3, s4⟩
                        go_simp
                        with_reducible rfl
                      rotate_left
                      · simp only [Act.put, List.setIfInBounds_toArray, List.set_cons_zero, List.set_cons_succ, i64_w, i32_w]
                        rfl
                      refine pure_ (i := 9) (N := some 113) (v := ?_) (a' := ?_) #[true, true, true, true, true, true, true, true, true, true, false, true, false, false, false, false, false] rfl rfl (by kernel_rfl) (fun _ _ _ h => h) (Or.inl ⟨by rfl, ?_⟩) ?_ ?_
                      rotate_left
                      · intro w'
                        go_simp
                        with_reducible rfl
                      rotate_left
                      · simp only [Act.put, List.setIfInBounds_toArray, List.set_cons_zero, List.set_cons_succ, i64_w, i32_w]
                        rfl
                      refine take_ (i := 10) (N := some 114) (v := ?_) (a' := ?_) #[true, true, true, true, true, true, true, true, true, true, true, true, false, false, false, false, false] rfl rfl (by kernel_rfl) (fun _ _ _ h => h) (Or.inl ⟨by rfl, ?_⟩) hHeld ?_ ?_
                      rotate_left
                      · rintro w' ⟨s0, s1, s2, s3, s4⟩
                        go_simp
                        with_reducible rfl
                      rotate_left
                      · simp only [Act.put, List.setIfInBounds_toArray, List.set_cons_zero, List.set_cons_succ, i64_w, i32_w]
                        rfl
                      refine pure_ (i := 12) (N := some 116) (v := ?_) (a' := ?_) #[true, true, true, true, true, true, true, true, true, true, true, true, true, false, false, false, false] rfl rfl (by kernel_rfl) (fun _ _ _ h => h) (Or.inl ⟨by rfl, ?_⟩) ?_ ?_
                      rotate_left
                      · intro w'
                        go_simp
                        with_reducible rfl
                      rotate_left
                      · simp only [Act.put, List.setIfInBounds_toArray, List.set_cons_zero, List.set_cons_succ, i64_w, i32_w]
                        rfl
                      refine take_ (i := 13) (N := some 117) (v := ?_) (a' := ?_) #[true, true, true, true, true, true, true, true, true, true, true, true, true, true, false, false, false] rfl rfl (by kernel_rfl) (fun _ _ _ h => h) (Or.inl ⟨by rfl, ?_⟩) hHeld ?_ ?_
                      rotate_left
                      · rintro w' ⟨s0, s1, s2, s3, s4⟩
                        go_simp
                        with_reducible rfl
                      rotate_left
                      · simp only [Act.put, List.setIfInBounds_toArray, List.set_cons_zero, List.set_cons_succ, i64_w, i32_w]
                        rfl
                      refine one_ (i := 14) (N := some 118) #[true, true, true, true, true, true, true, true, true, true, true, true, true, true, true, false, false] rfl rfl (by kernel_rfl) (by decide) (fun K hK => ?_)
                      refine goes_ Tryd.func24 (by kernel_rfl) rfl #[.slice Az (rdV (rdM l2 (i : Int)) (j : Int)).length cz] (by rfl) rfl rfl (by (try simp only [List.map_toArray, List.map_cons, List.map_nil]); first | done | rfl) ?_
                      with_reducible refine (slices_Clone_uint32_uint32.calls Az cz (rdV (rdM l2 (i : Int)) (j : Int)) ((Ls.getD i []).getD j []) wd (Kd.C_below HZ.out.2.2 HD.out.hb) HZ.out.2.1 HG0.out).mono ?_
                      rintro e w6 ⟨vg, rfl, hR, hb⟩
                      obtain ⟨Ag, cg, rfl⟩ := Kd.R_slice hR
                      have H11 := Aside0.mk (HD.out.made hb hR)
                      clear hR hb
                      refine ⟨_, rfl, ?_⟩
                      refine hK.out _ _ ⟨(cells3 (H11.out.get 3 rfl)).2.2.1, (H11.out.cell 3 rfl i HLM.out).1, (cells2 (H11.out.get 0 rfl)).2.1, pw_cell_below H11.out.hb HY.out.1, pw_cell_below H11.out.hb HZ.out.1⟩ (fun hHeld => ?_)
                      clear hK K
                      refine norm_ (a' := ?_) ?_ ?_
                      rotate_left
                      · show Act.put _ (some 118) _ = _
                        simp only [Act.put, List.setIfInBounds_toArray, List.set_cons_zero, List.set_cons_succ, i64_w, i32_w]
                        rfl
                      refine pure_ (i := 15) (N := some 119) (v := ?_) (a' := ?_) #[true, true, true, true, true, true, true, true, true, true, true, true, true, true, true, true, false] rfl rfl (by kernel_rfl) (fun _ _ _ h => h) (Or.inl ⟨by rfl, ?_⟩) ?_ ?_
                      rotate_left
                      · intro w'
                        go_simp
                        with_reducible rfl
                      rotate_left
                      · simp only [Act.put, List.setIfInBounds_toArray, List.set_cons_zero, List.set_cons_succ, i64_w, i32_w]
                        rfl
                      refine last_ (i := 16) (N := none) #[true, true, true, true, true, true, true, true, true, true, true, true, true, true, true, true, true] rfl rfl (by kernel_rfl) (by decide) (fun K hK => ?_)
                      obtain ⟨y0, z0⟩ := H11.out.cell 0 rfl j HCU.out
                      refine skip_ (w1 := ?_) ?_ ?_ ?_ ?_
                      rotate_left
                      · rfl
                      · rfl
                      · go_simp
                        rfl
                      refine hK.out _ _ ?_
                      clear hK K
                      refine done_ (by kernel_rfl) ?_
                      refine exit_gen (fun W => Hq w [(gm, 25, #[.slice (some ad1) l1.length c1, .slice (some ad2) l2.length c2]), (gr, 30, #[.slice none 0 0, .slice none 0 0, .slice none 0 0]), (gs, 49, #[.slice A0 l0.length c0, .slice (some ad1) l1.length c1, .slice (some ad2) l2.length c2, .int .u64 sh, .int .u64 gv]), (gV, 30, #[.slice (some ⟨gG, 0, none⟩) l0.length l0.length, .slice (some ⟨gO, 0, none⟩) l0.length l0.length, .slice (some ⟨gL, 0, none⟩) l0.length l0.length])] ((35, .slice (some ⟨gM, 0, none⟩) l0.length l0.length, (Cv.set j (.slice Ag ((Ls.getD i []).getD j []).length cg))) :: (35, .slice (some ⟨gG, 0, none⟩) l0.length l0.length, Gv2) :: (35, .slice (some ⟨gO, 0, none⟩) l0.length l0.length, Ov2) :: (22, .slice (some ⟨gL, 0, none⟩) l0.length l0.length, (Lv.set i (.slice (some ⟨gM, 0, none⟩) l0.length l0.length))) :: mids) (LfA Lf4 (.slice Ag ((Ls.getD i []).getD j []).length cg) ((Ls.getD i []).getD j [])) W) (H11.out.rput 0 rfl j (get_lt HCU.out) _) ?_
                      clear hHeld HD H11 y0 z0
                      intro w13 hL
                      have H12 := Aside0.mk hL
                      clear hL
                      go_wp2_with fail
                      go_roundg k2
                      case measure => omega
                      case rel => exact ⟨j + 1, _, _, by first | rfl | (rw [EJ.out]), ⟨by have := HJ.out; omega⟩, ⟨by have := HIJ.out; omega⟩, H12, ⟨fun _ _ h => Or.inl (ML4.out _ _ h)⟩, ⟨by rw [← upto_set (L3.out i LT.out) LTJ.out]; exact (HVC.out.add _ _).set j (Or.inr ⟨rfl, rfl⟩)⟩⟩
                    · have hg0 := HLI.out
                      rw [if_neg (by simp)] at hg0
                      have HG0 := Aside0.mk (Option.some.inj hg0).symm
                      clear hg0
                      go_wp2_with (first | (go_at_call 22; (with_reducible refine (crowd_Has.calls sh (wrap64 ((i : Int) + 1)) _ _ HA.out).mono ?_); rintro e w5 ⟨rfl, hd⟩; have HB := Aside0.mk (below_step HB.out (below_drawn hd)); clear hd) | (go_at_call 22; (with_reducible refine (crowd_Has.calls sh j1 _ _ HBb.out).mono ?_); rintro e w5 ⟨rfl, hd⟩; have HB := Aside0.mk (below_step HB.out (below_drawn hd)); clear hd) | (go_at_call 22; (with_reducible refine (crowd_Has.calls gv (wrap64 ((i : Int) + 1)) _ _ HCc.out).mono ?_); rintro e w5 ⟨rfl, hd⟩; have HB := Aside0.mk (below_step HB.out (below_drawn hd)); clear hd) | (go_at_call 22; (with_reducible refine (crowd_Has.calls gv j1 _ _ HDd.out).mono ?_); rintro e w5 ⟨rfl, hd⟩; have HB := Aside0.mk (below_step HB.out (below_drawn hd)); clear hd))
                      go_roundg k2
                      case measure => omega
                      case rel => exact ⟨j + 1, Cv, Lf4, by first | rfl | (rw [EJ.out]), ⟨by have := HJ.out; omega⟩, ⟨by have := HIJ.out; omega⟩, ⟨H9.out.below HB.out⟩, ML4, ⟨by rw [← upto_same (L3.out i LT.out) LTJ.out HG0.out]; exact HVC.out⟩⟩
set_option maxHeartbeats 16000000 in
set_option maxRecDepth 100000 in
theorem see_bad (k : Nat) (w : World) (A0 : Option Addr) (c0 : Nat) (l0 : List (List Int)) (A1 : Option Addr) (c1 : Nat) (l1 : List (List Int)) (A2 : Option Addr) (c2 : Nat) (l2 : List (List (List Int))) (sh gv : Int)
    (hr0 : Kd.C (Kd.slice 37 (Kd.int .u32)) w A0 l0.length l0) (hc0 : l0.length ≤ c0) (hr1 : Kd.C (Kd.slice 37 (Kd.int .u32)) w A1 l1.length l1) (hc1 : l1.length ≤ c1) (hr2 : Kd.C (Kd.slice 35 (Kd.slice 37 (Kd.int .u32))) w A2 l2.length l2) (hc2 : l2.length ≤ c2) (r : Int) (hr : r ≠ 0) (he : ideal_check.f k l0 l1 l2 sh gv = some r) :
    Calls Tryd.prog 12 #[.slice A0 l0.length c0, .agg #[.slice A1 l1.length c1, .slice A2 l2.length c2], .int .u64 sh, .int .u64 gv] w fun e w' => e = .returned (.tuple #[.agg #[.slice none 0 0, .slice none 0 0, .slice none 0 0], .int .i64 r]) ∧ Below w.heap.size w w' := by
  have hu25 := Tryd.underlying25
  have hu30 := Tryd.underlying30
  have hu49 := Tryd.underlying49
  have HR0 := Aside0.mk hr0
  have HC0 := Aside0.mk hc0
  have HR1 := Aside0.mk hr1
  have HC1 := Aside0.mk hc1
  have HR2 := Aside0.mk hr2
  have HC2 := Aside0.mk hc2
  have HE := Aside0.mk he
  have e1 : (r != 0) = true := bne_iff_ne.2 hr
  have e2 : (r == 0) = false := beq_eq_false_iff_ne.2 hr
  clear hr0 hc0 hr1 hc1 hr2 hc2 hr he
  go_enter Tryd.func12, Tryd.ntmps12
  go_wp2_with (first | ((with_reducible refine gate_dst (N := 5) rfl ?_); refine box_event ?hg (N := 5) ?hd (cs := #[.slice A1 l1.length c1, .slice A2 l2.length c2]) (t := 25) ?hr ?_; (case hd => rfl); (case hg => rfl); (case hr => first | (go_simp; done) | (go_simp; rfl)); intro gm hg wa1 hbox hb; have H0 : Aside0 (Hq w [(gm, 25, #[.slice A1 l1.length c1, .slice A2 l2.length c2])] [] Lf0 wa1) := ⟨(Hq.none_ w).box (Nat.le_of_eq hg.symm) hbox hb (by decide)⟩; clear hb hbox hg) | ((with_reducible refine gate_dst (N := 8) rfl ?_); refine box_event ?hg (N := 8) ?hd (cs := #[.slice none 0 0, .slice none 0 0, .slice none 0 0]) (t := 30) ?hr ?_; (case hd => rfl); (case hg => rfl); (case hr => first | (go_simp; done) | (go_simp; rfl)); intro gr hg wa2 hbox hb; have H1 : Aside0 (Hq w [(gm, 25, #[.slice A1 l1.length c1, .slice A2 l2.length c2]), (gr, 30, #[.slice none 0 0, .slice none 0 0, .slice none 0 0])] [] Lf0 wa2) := ⟨H0.out.box (Nat.le_of_eq hg.symm) hbox hb (by decide)⟩; clear hb hbox hg; obtain ⟨y0, y1, y2, y3⟩ := cells2 (H1.out.get 0 rfl)) | ((with_reducible refine gate_dst (N := 22) rfl ?_); refine box_event ?hg (N := 22) ?hd (cs := #[.slice A0 l0.length c0, .slice A1 l1.length c1, .slice A2 l2.length c2, .int .u64 sh, .int .u64 gv]) (t := 49) ?hr ?_; (case hd => rfl); (case hg => rfl); (case hr => first | (go_simp; done) | (go_simp; rfl)); intro gs hg wa3 hbox hb; have H2 : Aside0 (Hq w [(gm, 25, #[.slice A1 l1.length c1, .slice A2 l2.length c2]), (gr, 30, #[.slice none 0 0, .slice none 0 0, .slice none 0 0]), (gs, 49, #[.slice A0 l0.length c0, .slice A1 l1.length c1, .slice A2 l2.length c2, .int .u64 sh, .int .u64 gv])] [] Lf0 wa3) := ⟨H1.out.box (Nat.le_of_eq hg.symm) hbox hb (by decide)⟩; clear hb hbox hg y0 y1 y2 y3) | (go_at_call 21; (with_reducible refine (check_w k wa3 gs A0 c0 l0 A1 c1 l1 A2 c2 l2 sh gv (H2.out.get 2 rfl) (Kd.C_below HR0.out H2.out.hb) HC0.out (Kd.C_below HR1.out H2.out.hb) HC1.out (Kd.C_below HR2.out H2.out.hb) HC2.out r HE.out).mono ?_); rintro e wb ⟨rfl, hb⟩; have H3 := Aside0.mk (H2.out.below hb); clear hb H2 H1 H0; obtain ⟨x0, x1, x2, z0, z1, z2⟩ := cells3 (H3.out.get 1 rfl)))
  have HF := ((H3.out.put 1 rfl 0 (.slice none 0 0) rfl).put 1 rfl 1 (.slice none 0 0) rfl).put 1 rfl 2 (.slice none 0 0) rfl
  refine bodyPost_ret (results_ct rfl _ _ gr 30 #[.slice none 0 0, .slice none 0 0, .slice none 0 0] (0, 0) _ rfl (HF.get 1 rfl) Tryd.underlying30 rfl (by kernel_rfl)) rfl ?_
  exact ⟨by first | rfl | (simp; done), HF.hb⟩
theorem check_pos {k : Nat} {l0 l1 : List (List Int)} {l2 : List (List (List Int))} {sh gv : Int} (h : ideal_check.f k l0 l1 l2 sh gv = some 0) : l0.length ≠ 0 := by
  intro e
  unfold ideal_check.f at h
  rw [if_pos e] at h
  cases h
theorem ideal_See.calls (k : Nat) (A0 : Option Addr) (c0 : Nat) (l0 : List (List Int)) (A1_0 : Option Addr) (c1_0 : Nat) (l1_0 : List (List Int)) (A1_1 : Option Addr) (c1_1 : Nat) (l1_1 : List (List (List Int))) (a2 : Int) (a3 : Int) (r1 r2 : List (List Int)) (r3 : List (List (List Int))) (r4 : Int) (w : World) (hr0 : Kd.C (Kd.slice 37 (Kd.int .u32)) w A0 l0.length l0) (hc0 : l0.length ≤ c0) (hr1_0 : Kd.C (Kd.slice 37 (Kd.int .u32)) w A1_0 l1_0.length l1_0) (hc1_0 : l1_0.length ≤ c1_0) (hr1_1 : Kd.C (Kd.slice 35 (Kd.slice 37 (Kd.int .u32))) w A1_1 l1_1.length l1_1) (hc1_1 : l1_1.length ≤ c1_1) (hT : Tab w) (h : ideal_See.f k l0 l1_0 l1_1 a2 a3 = some (r1, r2, r3, r4)) :
    Calls Tryd.prog 12 #[.slice A0 l0.length c0, .agg #[.slice A1_0 l1_0.length c1_0, .slice A1_1 l1_1.length c1_1], .int .u64 a2, .int .u64 a3] w fun e w' => ∃ v0_ v1_ v2_ : Value, e = .returned (.tuple #[.agg #[v0_, v1_, v2_], .int .i64 r4]) ∧ Kd.R (Kd.slice 37 (Kd.int .u32)) 35 w' w.heap.size (fun k_ => some k_ ≠ (v1_ : Value).ownBlock) v0_ r1 ∧ Kd.R (Kd.slice 37 (Kd.int .u32)) 35 w' w.heap.size (fun k_ => some k_ ≠ (v0_ : Value).ownBlock) v1_ r2 ∧ Kd.R (Kd.slice 35 (Kd.slice 37 (Kd.int .u32))) 22 w' w.heap.size (fun k_ => some k_ ≠ (v0_ : Value).ownBlock ∧ some k_ ≠ (v1_ : Value).ownBlock) v2_ r3 ∧ Below w.heap.size w w' := by
  unfold ideal_See.f at h
  obtain ⟨e, he, h⟩ := Option.bind_eq_some_iff.mp h
  by_cases e0 : e = 0
  · subst e0
    rw [if_pos rfl] at h
    split at h
    case isFalse => cases h
    rename_i hc
    obtain ⟨h1, h2, h3, h4⟩ := hc
    obtain ⟨Gs, hG, h⟩ := Option.bind_eq_some_iff.mp h
    obtain ⟨Os, hO, h⟩ := Option.bind_eq_some_iff.mp h
    obtain ⟨Ls, hL, h⟩ := Option.bind_eq_some_iff.mp h
    simp only [Option.some.injEq, Prod.mk.injEq] at h
    obtain ⟨rfl, rfl, rfl, rfl⟩ := h
    have hp := check_pos he
    obtain ⟨ad1, _, _, rfl, _⟩ := at_V hr1_0 0 (Int.le_refl 0) (by omega)
    obtain ⟨ad2, _, _, rfl, _⟩ := at_M hr1_1 0 (Int.le_refl 0) (by omega)
    obtain ⟨gl, hG⟩ := mapO_get _ _ hG
    obtain ⟨ol, hO⟩ := mapO_get _ _ hO
    obtain ⟨ll, hL⟩ := mapO_get _ _ hL
    refine see_w k w A0 c0 l0 ad1 c1_0 l1_0 ad2 c1_1 l1_1 a2 a3 hr0 hc0 hr1_0 hc1_0 hr1_1 hc1_1 hT _ _ _ h1 h2 h3 (fun i hi => ?_) he gl ol ll (fun i hi => (mapO_get _ _ (hL i [] hi)).1) (fun i hi => hG i [] hi) (fun i hi => hO i [] hi) (fun i j hi hj => (mapO_get _ _ (hL i [] hi)).2 j [] hj)
    refine h4 _ ?_
    unfold rdM
    rw [Int.toNat_natCast, List.getD, List.getElem?_eq_getElem (show i < l1_1.length by omega)]
    exact List.getElem_mem _
  · rw [if_neg e0] at h
    simp only [Option.some.injEq, Prod.mk.injEq] at h
    obtain ⟨rfl, rfl, rfl, rfl⟩ := h
    refine (see_bad k w A0 c0 l0 A1_0 c1_0 l1_0 A1_1 c1_1 l1_1 a2 a3 hr0 hc0 hr1_0 hc1_0 hr1_1 hc1_1 e e0 he).mono ?_
    rintro e w' ⟨rfl, hb⟩
    exact ⟨_, _, _, rfl, Kd.R_nil _ _ _ _ _, Kd.R_nil _ _ _ _ _, Kd.R_nil _ _ _ _ _, hb⟩

end Go.Proofs.YtpicmnkkkgedeaaDoor.PAll
