/- The Go functions that the laws reach, as Lean functions, and that each call comes to what its function says. Written by a program of this session (a turned copy of the kit's print). No condition beyond those that each theorem states. -/
import Derived.Test.YtpicmnkkkgedeaaDoorPAllx0
import Derived.Test.YtpicmnkkkgedeaaDoorPAllx1
import Derived.Test.YtpicmnkkkgedeaaDoorPAllx4
import Derived.Test.YtpicmnkkkgedeaaDoorPAllx7
import Derived.Test.YtpicmnkkkgedeaaDoorPAllx8
namespace Go.Proofs.YtpicmnkkkgedeaaDoor.PAll
open Go.RowKit Go.Proofs.YtpicmnkkkgedeaaDoorW.PrintWords Go.Proofs.YtpicmnkkkgedeaaDoorW.PrintLast Go.Proofs.YtpicmnkkkgedeaaDoorW.PrintMore
attribute [local go_sem] max2_int min2_int max_two min_two max_three min_three max_four min_four   -- for this text's walks alone
set_option linter.unusedVariables false
set_option linter.unusedSimpArgs false

theorem RM.snoc {rs : List Rw} {Lf : Value → List Int → Prop} {vs : List Value} {xs : List (List (List Int))} (h : RM rs Lf vs xs) {v : Value} {x : List (List Int)} {m : Nat} {cs : List Value} (hm : rs[m]? = some (35, v, cs)) (hx : RV Lf cs x) : RM rs Lf (vs ++ [v]) (xs ++ [x]) := by
  refine ⟨by simp [h.1], fun j u y h1 h2 => ?_⟩
  rcases get_snoc h1 with h3 | ⟨e1, rfl⟩
  · rcases get_snoc h2 with h4 | ⟨e2, rfl⟩
    · exact h.2 j u y h3 h4
    · have := get_lt h3
      have := h.1
      omega
  · rcases get_snoc h2 with h4 | ⟨e2, rfl⟩
    · have := get_lt h4
      have := h.1
      omega
    · exact Or.inr ⟨m, cs, hm, hx⟩
/-- Middle rows, the last one first. -/
def RMX (mids : List Rw) (Lf : Value → List Int → Prop) (vs : List Value) (xs : List (List (List Int))) : Prop := vs.length = xs.length ∧ mids.length = vs.length ∧ ∀ (j : Nat) (v : Value) (x : List (List Int)), vs[j]? = some v → xs[j]? = some x → ∃ cs, mids[vs.length - 1 - j]? = some (35, v, cs) ∧ RV Lf cs x
theorem RMX.nil (Lf : Value → List Int → Prop) : RMX [] Lf [] [] := ⟨rfl, rfl, fun j v x h => by simp at h⟩
theorem RMX.lf {rs : List Rw} {Lf Lf' : Value → List Int → Prop} {vs : List Value} {xs : List (List (List Int))} (h : RMX rs Lf vs xs) (hl : ∀ v x, Lf v x → Lf' v x) : RMX rs Lf' vs xs :=
  ⟨h.1, h.2.1, fun j v x h1 h2 => (h.2.2 j v x h1 h2).imp fun cs ⟨h3, h4⟩ => ⟨h3, h4.mono hl⟩⟩
theorem RMX.rm {rs : List Rw} {Lf : Value → List Int → Prop} {vs : List Value} {xs : List (List (List Int))} (h : RMX rs Lf vs xs) : RM rs Lf vs xs :=
  ⟨h.1, fun j v x h1 h2 => Or.inr ((h.2.2 j v x h1 h2).elim fun cs h3 => ⟨_, cs, h3⟩)⟩
theorem RMX.snoc {rs : List Rw} {Lf : Value → List Int → Prop} {vs : List Value} {xs : List (List (List Int))} (h : RMX rs Lf vs xs) {v : Value} {x : List (List Int)} {cs : List Value} (hx : RV Lf cs x) : RMX ((35, v, cs) :: rs) Lf (vs ++ [v]) (xs ++ [x]) := by
  refine ⟨by simp [h.1], by simp [h.2.1], fun j u y h1 h2 => ?_⟩
  rw [List.length_append, List.length_singleton, Nat.add_sub_cancel]
  rcases get_snoc h1 with h3 | ⟨e1, rfl⟩
  · rcases get_snoc h2 with h4 | ⟨e2, rfl⟩
    · obtain ⟨c, h5, h6⟩ := h.2.2 j u y h3 h4
      have := get_lt h3
      refine ⟨c, ?_, h6⟩
      rw [show vs.length - j = (vs.length - 1 - j) + 1 by omega, List.getElem?_cons_succ]
      exact h5
    · have := get_lt h3
      have := h.1
      omega
  · rcases get_snoc h2 with h4 | ⟨e2, rfl⟩
    · have := get_lt h4
      have := h.1
      omega
    · exact ⟨cs, by rw [e1, Nat.sub_self]; rfl, hx⟩
theorem RMX.put {rs : List Rw} {Lf : Value → List Int → Prop} {vs : List Value} {xs : List (List (List Int))} (h : RMX rs Lf vs xs) (q : Nat) {v : Value} {x : List (List Int)} {cs : List Value} (hq : vs[q]? = some v) (hx : RV Lf cs x) : RMX (rs.set (vs.length - 1 - q) (35, v, cs)) Lf vs (xs.set q x) := by
  have hlt := get_lt hq
  refine ⟨by simp [h.1], by simp [h.2.1], fun j u y h1 h2 => ?_⟩
  have hj := get_lt h1
  by_cases e : q = j
  · subst e
    rw [hq] at h1
    obtain rfl := Option.some.inj h1
    rw [List.getElem?_set_self (by rw [← h.1]; exact hlt)] at h2
    obtain rfl := Option.some.inj h2
    exact ⟨cs, List.getElem?_set_self (by rw [h.2.1]; omega), hx⟩
  · rw [List.getElem?_set_ne e] at h2
    obtain ⟨c, h5, h6⟩ := h.2.2 j u y h1 h2
    exact ⟨c, by rw [List.getElem?_set_ne (by omega)]; exact h5, h6⟩
theorem Hq.join {w0 w1 w : World} {bs : List Bx} {rs : List Rw} {Lf Lf' : Value → List Int → Prop} (h : Hq w0 bs [] Lf' w1) (g : Hq w1 [] rs Lf w) : Hq w0 bs rs Lf w := by
  have hs := below_size h.hb
  have hB := h.below g.hb
  refine ⟨hB.all, hB.nd, fun i r hi => ⟨own_weaken (g.rows i r hi).1 hs, (g.rows i r hi).2⟩, g.rnd, fun i j r b hi hj e => ?_, fun v x hx => Kd.R_lower (g.leaf v x hx) hs, hB.hb⟩
  have h1 := own_base (g.rows i r hi).1 _ e
  have h2 := blk_lt (h.all j b hj).1
  omega
theorem Hq.form {w0 w : World} {bs : List Bx} {rs : List Rw} {Lf : Value → List Int → Prop} (h : Hq w0 bs rs Lf w) (i : Nat) {e : Nat} {v : Value} {cs : List Value} (hi : rs[i]? = some (e, v, cs)) (hp : 0 < cs.length) : ∃ g c, v = .slice (some ⟨g, 0, none⟩) cs.length c := by
  obtain ⟨⟨_, h2⟩, _⟩ := h.rows i _ hi
  rcases h2 with ⟨_, h3⟩ | ⟨g, c, cur, e2, _⟩
  · have h4 : cs.length = 0 := h3
    omega
  · exact ⟨g, c, e2⟩
theorem row_event {P : Program} {ops : Array Oper} {rest : List Oper} {o : Oper} {a : Act} {Q : Exit → Act → World → Prop} {W : World} (hgd : o.guard = none) {n : Nat} {cs : Array Value} {t : TypeId}
    (hrun : (execOp a.eval o).run P W = .ok (.value (.slice (some ⟨W.heap.size, 0, none⟩) n n)) (W.alloc (.cells cs t (0, 0))))
    (h : ∀ g, W.heap.size ≤ g → ∀ w1, w1.heap[g]? = some (.cells cs t (0, 0)) → Below W.heap.size W w1 → wpList P ops Q rest (a.put o.dst (.slice (some ⟨g, 0, none⟩) n n)) w1) : wpList P ops Q (o :: rest) a W :=
  Kd.event_run hgd hrun (h _ (Nat.le_refl _) _ (blk_new W _) (below_alloc (Below.refl _ _) _))
theorem RM.nil (Lf : Value → List Int → Prop) : RM [] Lf [] [] := ⟨rfl, fun j v x h => by simp at h⟩
theorem Hq.swap {w0 w : World} {bs : List Bx} {a b : Rw} {rs : List Rw} {Lf : Value → List Int → Prop} (h : Hq w0 bs (a :: b :: rs) Lf w) : Hq w0 bs (b :: a :: rs) Lf w := by
  refine h.pick (fun i => if i = 0 then 1 else if i = 1 then 0 else i) (fun i j _ _ e => ?_) (fun i r hi => ?_)
  · split at e <;> split at e <;> (try split at e) <;> (try split at e) <;> omega
  · match i, hi with
    | 0, hi => exact hi
    | 1, hi => exact hi
    | i + 2, hi =>
      rw [if_neg (by omega), if_neg (by omega)]
      exact hi
theorem Hq.rot3 {w0 w : World} {bs : List Bx} {a b c : Rw} {rs : List Rw} {Lf : Value → List Int → Prop} (h : Hq w0 bs (a :: b :: c :: rs) Lf w) : Hq w0 bs (b :: c :: a :: rs) Lf w := by
  refine h.pick (fun i => if i < 2 then i + 1 else if i = 2 then 0 else i) (fun i j _ _ e => ?_) (fun i r hi => ?_)
  · split at e <;> split at e <;> (try split at e) <;> (try split at e) <;> omega
  · match i, hi with
    | 0, hi => exact hi
    | 1, hi => exact hi
    | 2, hi => exact hi
    | i + 3, hi =>
      rw [if_neg (by omega), if_neg (by omega)]
      exact hi
theorem clone_f {x : List Int} (h : x.length ≤ 1000000) : slices_Clone_uint32_uint32.f x = some x := by unfold slices_Clone_uint32_uint32.f; rw [if_pos h]
theorem rdV_get {l : List (List Int)} {i : Nat} (h : i < l.length) : l[i]? = some (rdV l (i : Int)) := by simp [rdV, List.getD, h]
theorem rdM_get {l : List (List (List Int))} {i : Nat} (h : i < l.length) : l[i]? = some (rdM l (i : Int)) := by simp [rdM, List.getD, h]
theorem rdM_set {l : List (List (List Int))} {q j : Nat} {y : List (List Int)} (h : j < l.length) : rdM (l.set q y) (j : Int) = if q = j then y else rdM l (j : Int) := by
  unfold rdM
  rw [Int.toNat_natCast, List.getD, List.getElem?_set, List.getD]
  by_cases e : q = j
  · rw [if_pos e, if_pos e, if_pos (by rw [e]; exact h)]
    rfl
  · rw [if_neg e, if_neg e]
theorem takeV {l : List (List Int)} {i : Nat} (h : i < l.length) : l.take (i + 1) = l.take i ++ [rdV l (i : Int)] := by
  rw [List.take_succ_eq_append_getElem h]
  simp [rdV, List.getD, h]
theorem takeM {l : List (List (List Int))} {i : Nat} (h : i < l.length) : l.take (i + 1) = l.take i ++ [rdM l (i : Int)] := by
  rw [List.take_succ_eq_append_getElem h]
  simp [rdM, List.getD, h]

/-! ### ideal_own: function 25 -/
/-! ### masks of their own memory -/
set_option maxHeartbeats 16000000 in
set_option maxRecDepth 100000 in
theorem own_w (w : World) (ad1 : Addr) (c1 : Nat) (l1 : List (List Int)) (ad2 : Addr) (c2 : Nat) (l2 : List (List (List Int)))
    (hr1 : Kd.C (Kd.slice 37 (Kd.int .u32)) w (some ad1) l1.length l1) (hc1 : l1.length ≤ c1) (hr2 : Kd.C (Kd.slice 35 (Kd.slice 37 (Kd.int .u32))) w (some ad2) l2.length l2) (hc2 : l2.length ≤ c2)
    (hn : l1.length ≤ 1000000) (hn2 : l2.length ≤ 1000000) (hb1 : ∀ i : Nat, i < l1.length → (rdV l1 (i : Int)).length ≤ 1000000) (hb2 : ∀ i : Nat, i < l2.length → (rdM l2 (i : Int)).length ≤ 1000000) (hb3 : ∀ i j : Nat, i < l2.length → j < (rdM l2 (i : Int)).length → (rdV (rdM l2 (i : Int)) (j : Int)).length ≤ 1000000) :
    Calls Tryd.prog 25 #[.agg #[.slice (some ad1) l1.length c1, .slice (some ad2) l2.length c2]] w fun e w' => ∃ (Av Aw : Option Addr) (cv cw : Nat) (cs0 cs1 : List Value) (mids : List Rw) (Lf : Value → List Int → Prop), e = .returned (.agg #[.slice Av cs0.length cv, .slice Aw cs1.length cw]) ∧ Hq w [] ((35, .slice Av cs0.length cv, cs0) :: (22, .slice Aw cs1.length cw, cs1) :: mids) Lf w' ∧ Lf (.slice none 0 0) [] ∧ RV Lf cs0 l1 ∧ RMX mids Lf cs1 l2 := by
  have hu25 := Tryd.underlying25
  have HR1 := Aside0.mk hr1
  have HR2 := Aside0.mk hr2
  have NN := Aside0.mk hn
  have NN2 := Aside0.mk hn2
  have HBV := Aside0.mk hb1
  have HBM := Aside0.mk hb2
  have HBX := Aside0.mk hb3
  clear hr1 hc1 hr2 hc2 hn hn2 hb1 hb2 hb3
  go_enter Tryd.func25, Tryd.ntmps25
  go_wp2_with (first | ((with_reducible refine gate_dst (N := 1) rfl ?_); refine box_event ?hg (N := 1) ?hd (cs := #[.slice (some ad1) l1.length c1, .slice (some ad2) l2.length c2]) (t := 25) ?hr ?_; (case hd => rfl); (case hg => rfl); (case hr => first | (go_simp; done) | (go_simp; rfl)); intro gm hg wa1 hbox hb; have H0 : Aside0 (Hq w [(gm, 25, #[.slice (some ad1) l1.length c1, .slice (some ad2) l2.length c2])] [] Lf0 wa1) := ⟨(Hq.none_ w).box (Nat.le_of_eq hg.symm) hbox hb (by decide)⟩; clear hb hbox hg) | ((with_reducible refine gate_dst (N := 2) rfl ?_); refine box_event ?hg (N := 2) ?hd (cs := #[.slice none 0 0, .slice none 0 0]) (t := 25) ?hr ?_; (case hd => rfl); (case hg => rfl); (case hr => first | (go_simp; done) | (go_simp; rfl)); intro gr hg wa2 hbox hb; have H1 : Aside0 (Hq w [(gm, 25, #[.slice (some ad1) l1.length c1, .slice (some ad2) l2.length c2]), (gr, 25, #[.slice none 0 0, .slice none 0 0])] [] Lf0 wa2) := ⟨H0.out.box (Nat.le_of_eq hg.symm) hbox hb (by decide)⟩; clear hb hbox hg) | ((with_reducible refine gate_dst (N := 3) rfl ?_); refine box_event ?hg (N := 3) ?hd (cs := #[.slice none 0 0, .slice none 0 0]) (t := 25) ?hr ?_; (case hd => rfl); (case hg => rfl); (case hr => first | (go_simp; done) | (go_simp; rfl)); intro go hg wa3 hbox hb; have H2 : Aside0 (Hq w [(gm, 25, #[.slice (some ad1) l1.length c1, .slice (some ad2) l2.length c2]), (gr, 25, #[.slice none 0 0, .slice none 0 0]), (go, 25, #[.slice none 0 0, .slice none 0 0])] [] Lf0 wa3) := ⟨H1.out.box (Nat.le_of_eq hg.symm) hbox hb (by decide)⟩; clear hb hbox hg H0 H1; obtain ⟨y0, y1, y2, y3⟩ := cells2 (H2.out.get 0 rfl)))
  have H3 : Aside0 (Hq w [(gm, 25, #[.slice (some ad1) l1.length c1, .slice (some ad2) l2.length c2]), (gr, 25, #[.slice none 0 0, .slice none 0 0]), (go, 25, #[.slice none 0 0, .slice none 0 0])] [(35, .slice none 0 0, [])] Lf0 wa3) := ⟨H2.out.nil 35 (by decide)⟩
  clear H2 y0 y1 y2 y3
  go_loopg [14] l1.length (fun kq v14 w' => ∃ (i : Nat) (Av : Option Addr) (cv : Nat) (cs0 : List Value) (Lf : Value → List Int → Prop), v14 = .int .i64 (i : Int) ∧ Aside0 (i + kq = l1.length) ∧ Aside0 (Hq w [(gm, 25, #[.slice (some ad1) l1.length c1, .slice (some ad2) l2.length c2]), (gr, 25, #[.slice none 0 0, .slice none 0 0]), (go, 25, #[(.slice Av cs0.length cv), .slice none 0 0])] [(35, (.slice Av cs0.length cv), cs0)] Lf w') ∧ Aside0 (Lf (.slice none 0 0) []) ∧ Aside0 (RV Lf cs0 (l1.take i)))
  case atStart => exact ⟨0, none, 0, [], Lf0, rfl, ⟨Nat.zero_add _⟩, H3, ⟨⟨rfl, rfl⟩⟩, ⟨by rw [List.take_zero]; exact RV.nil _⟩⟩
  case round =>
    clear H3
    obtain ⟨i, Av, cv, cs0, Lf, rfl, HI, H6, HN, HVL⟩ := hrel
    have hi := HI.out
    cases gk with
    | succ k1 =>
      have hlt : i < l1.length := by omega
      have hnn := NN.out
      have p1 : 0 ≤ (i : Int) := by omega
      have q1 : (i : Int) < (l1.length : Int) := by omega
      have d1 : decide ((i : Int) < (l1.length : Int)) = true := decide_eq_true q1
      have d2 : decide (i < l1.length) = true := decide_eq_true hlt
      have EW : Aside0 (wrap64 ((i : Int) + 1) = ((i + 1 : Nat) : Int)) := ⟨by unfold wrap64; omega⟩
      obtain ⟨_, Ax, cx, ex, hx0, hxl, hxr⟩ := at_V HR1.out (i : Int) p1 q1
      cases ex
      rw [Int.toNat_natCast] at hx0
      have hx1 := pw_cell_below H6.out.hb hx0
      have HX := Aside0.mk (And.intro (HBV.out i hlt) (And.intro hxl hxr))
      have LT := Aside0.mk hlt
      replace p1 := eq_true p1
      replace q1 := eq_true q1
      clear hi hlt hnn hx0 hxl hxr
      go_wp2_with fail
      obtain ⟨wd, ewd⟩ : ∃ x, x = wr.drew := ⟨_, rfl⟩
      have HD : Aside0 (Hq w [(gm, 25, #[.slice (some ad1) l1.length c1, .slice (some ad2) l2.length c2]), (gr, 25, #[.slice none 0 0, .slice none 0 0]), (go, 25, #[(.slice Av cs0.length cv), .slice none 0 0])] [(35, (.slice Av cs0.length cv), cs0)] Lf wd) := ⟨by rw [ewd]; exact H6.out.drew⟩
      clear hx1
      refine start_ (n := 8) (S := fun w' => w'.cell? ⟨go, 0, none⟩ = some (.slice Av cs0.length cv)) (ds := [7]) #[false, false, false, false, false, false, false, false] (by kernel_rfl) rfl rfl (by rw [← ewd]; exact (cells2 (HD.out.get 2 rfl)).1) (fun hHeld => ?_)
      rw [← ewd] at hHeld ⊢
      clear ewd
      refine pure_ (i := 0) (N := some 18) (v := ?_) (a' := ?_) #[true, false, false, false, false, false, false, false] rfl rfl (by kernel_rfl) (fun _ _ _ h => h) (Or.inl ⟨by rfl, ?_⟩) ?_ ?_
      rotate_left
      · intro w'
        go_simp
        with_reducible rfl
      rotate_left
      · simp only [Act.put, List.setIfInBounds_toArray, List.set_cons_zero, List.set_cons_succ, i64_w, i32_w]
        rfl
      refine pure_ (i := 2) (N := some 20) (v := ?_) (a' := ?_) #[true, false, true, false, false, false, false, false] rfl rfl (by kernel_rfl) (fun _ _ _ h => h) (Or.inl ⟨by rfl, ?_⟩) ?_ ?_
      rotate_left
      · intro w'
        go_simp
        with_reducible rfl
      rotate_left
      · simp only [Act.put, List.setIfInBounds_toArray, List.set_cons_zero, List.set_cons_succ, i64_w, i32_w]
        rfl
      refine take_ (i := 1) (N := some 19) (v := ?_) (a' := ?_) #[true, true, true, false, false, false, false, false] rfl rfl (by kernel_rfl) (fun _ _ _ h => h) (Or.inl ⟨by rfl, ?_⟩) hHeld ?_ ?_
      rotate_left
      · intro w' s0
        go_simp
        with_reducible rfl
      rotate_left
      · simp only [Act.put, List.setIfInBounds_toArray, List.set_cons_zero, List.set_cons_succ, i64_w, i32_w]
        rfl
      refine one_ (i := 3) (N := some 21) #[true, true, true, true, false, false, false, false] rfl rfl (by kernel_rfl) (by decide) (fun K hK => ?_)
      refine goes_ Tryd.func24 (by kernel_rfl) rfl #[.slice Ax (rdV l1 (i : Int)).length cx] (by rfl) rfl rfl (by (try simp only [List.map_toArray, List.map_cons, List.map_nil]); first | done | rfl) ?_
      with_reducible refine (slices_Clone_uint32_uint32.calls Ax cx (rdV l1 (i : Int)) (rdV l1 (i : Int)) wd (Kd.C_below HX.out.2.2 HD.out.hb) HX.out.2.1 (clone_f HX.out.1)).mono ?_
      rintro e w6 ⟨vg, rfl, hR, hb⟩
      obtain ⟨Ag, cg, rfl⟩ := Kd.R_slice hR
      have H11 := Aside0.mk (HD.out.made hb hR)
      clear hR hb
      refine ⟨_, rfl, ?_⟩
      refine hK.out _ _ (cells2 (H11.out.get 2 rfl)).1 (fun hHeld => ?_)
      clear hK K
      refine norm_ (a' := ?_) ?_ ?_
      rotate_left
      · show Act.put _ (some 21) _ = _
        simp only [Act.put, List.setIfInBounds_toArray, List.set_cons_zero, List.set_cons_succ, i64_w, i32_w]
        rfl
      refine one_ (i := 4) (N := some 22) #[true, true, true, true, true, false, false, false] rfl rfl (by kernel_rfl) (by decide) (fun K hK => ?_)
      refine value_ (w1 := ?_) (v := ?_) (by rfl) rfl ?_ ?_
      rotate_left 2
      · go_simp
        constructor
        · rfl
        · rfl
      refine hK.out _ _ (pw_cell_below (below_alloc (Below.refl _ _) _) (cells2 (H11.out.get 2 rfl)).1) (fun hHeld => ?_)
      clear hK K
      refine norm_ (a' := ?_) ?_ ?_
      rotate_left
      · show Act.put _ (some 22) _ = _
        simp only [Act.put, List.setIfInBounds_toArray, List.set_cons_zero, List.set_cons_succ, i64_w, i32_w]
        rfl
      refine one_ (i := 5) (N := some 23) #[true, true, true, true, true, true, false, false] rfl rfl (by kernel_rfl) (by decide) (fun K hK => ?_)
      refine step_append_cells (w0 := w) w.heap.size (by rfl) (.tmp 19) (.tmp 22) 22 35 (.slice none 0 0) 1 24 (by rfl) Tryd.underlying22 info_35S rfl (by decide) (by decide) (.slice Av cs0.length cv) cs0.length cs0 [(.slice Ag (rdV l1 (i : Int)).length cg)] rfl rfl rfl (by intro u hu; rw [List.mem_singleton.1 hu]; rfl) (H11.out.rows 0 _ rfl).1 H11.out.hb (below_size H11.out.hb) (by have h1_ := HVL.out.1; rw [List.length_take] at h1_; have h2_ := NN.out; omega) ?_
      intro v1 w7 hown hb hg hat
      obtain ⟨cs2, ecs⟩ : ∃ x, x = cs0 ++ [(.slice Ag (rdV l1 (i : Int)).length cg)] := ⟨_, rfl⟩
      have hown2 : w7.ownsRow w.heap.size 35 1 v1 cs2.length cs2 := by rw [ecs]; simpa using hown
      obtain ⟨Aw, cw, rfl⟩ := own_slice hown2
      have H12 := Aside0.mk (H11.out.grow hown2 hg hat hb)
      have ECS := Aside0.mk ecs
      clear hown hown2 hb hg hat ecs
      refine hK.out _ _ (cells2 (H12.out.get 2 rfl)).1 (fun hHeld => ?_)
      clear hK K
      refine norm_ (a' := ?_) ?_ ?_
      rotate_left
      · show Act.put _ (some 23) _ = _
        simp only [Act.put, List.setIfInBounds_toArray, List.set_cons_zero, List.set_cons_succ, i64_w, i32_w]
        rfl
      refine pure_ (i := 6) (N := some 24) (v := ?_) (a' := ?_) #[true, true, true, true, true, true, true, false] rfl rfl (by kernel_rfl) (fun _ _ _ h => h) (Or.inl ⟨by rfl, ?_⟩) ?_ ?_
      rotate_left
      · intro w'
        go_simp
        with_reducible rfl
      rotate_left
      · simp only [Act.put, List.setIfInBounds_toArray, List.set_cons_zero, List.set_cons_succ, i64_w, i32_w]
        rfl
      refine last_ (i := 7) (N := none) #[true, true, true, true, true, true, true, true] rfl rfl (by kernel_rfl) (by decide) (fun K hK => ?_)
      obtain ⟨y0, y1, z0, z1⟩ := cells2 (H12.out.get 2 rfl)
      refine skip_ (w1 := ?_) ?_ ?_ ?_ ?_
      rotate_left
      · rfl
      · rfl
      · go_simp
        rfl
      refine hK.out _ _ ?_
      clear hK K
      refine done_ (by kernel_rfl) ?_
      refine exit_gen (fun W => Hq w [(gm, 25, #[.slice (some ad1) l1.length c1, .slice (some ad2) l2.length c2]), (gr, 25, #[.slice none 0 0, .slice none 0 0]), (go, 25, #[(.slice Aw cs2.length cw), .slice none 0 0])] [(35, (.slice Aw cs2.length cw), cs2)] (LfA Lf (.slice Ag (rdV l1 (i : Int)).length cg) (rdV l1 (i : Int))) W) (H12.out.put 2 rfl 0 _ rfl) ?_
      clear hHeld HD H11 H12 H6 y0 y1 z0 z1
      intro w13 hL
      have H12 := Aside0.mk hL
      clear hL
      go_wp2_with fail
      go_roundg k1
      case measure => omega
      case rel => exact ⟨i + 1, _, _, cs2, _, by first | rfl | (rw [EW.out]), ⟨by have := HI.out; omega⟩, H12, ⟨Or.inl HN.out⟩, ⟨by rw [ECS.out, takeV LT.out]; exact (HVL.out.add _ _).snoc (Or.inr ⟨rfl, rfl⟩)⟩⟩
    | zero =>
      obtain rfl : i = l1.length := by omega
      have d1 : decide ((l1.length : Int) < (l1.length : Int)) = false := decide_eq_false (by omega)
      have HV0 := Aside0.mk (show RV Lf cs0 l1 by have h := HVL.out; rwa [List.take_length] at h)
      obtain ⟨y0, y1, y2, y3⟩ := cells2 (H6.out.get 0 rfl)
      clear hi HVL
      go_wp2_with fail
      have H7 : Aside0 (Hq w [(gm, 25, #[.slice (some ad1) l1.length c1, .slice (some ad2) l2.length c2]), (gr, 25, #[.slice none 0 0, .slice none 0 0]), (go, 25, #[.slice Av cs0.length cv, .slice none 0 0])] [(22, .slice none 0 0, []), (35, .slice Av cs0.length cv, cs0)] Lf wr) := ⟨H6.out.nil 22 (by decide)⟩
      clear H6 y0 y1 y2 y3
      go_loopg [29] l2.length (fun kq v29 w' => ∃ (i : Nat) (Aw : Option Addr) (cw : Nat) (cs1 : List Value) (mids : List Rw) (Lf2 : Value → List Int → Prop), v29 = .int .i64 (i : Int) ∧ Aside0 (i + kq = l2.length) ∧ Aside0 (Hq w [(gm, 25, #[.slice (some ad1) l1.length c1, .slice (some ad2) l2.length c2]), (gr, 25, #[.slice none 0 0, .slice none 0 0]), (go, 25, #[.slice Av cs0.length cv, .slice Aw cs1.length cw])] ((22, .slice Aw cs1.length cw, cs1) :: (35, .slice Av cs0.length cv, cs0) :: mids) Lf2 w') ∧ Aside0 (∀ v x, Lf v x → Lf2 v x) ∧ Aside0 (RMX mids Lf2 cs1 (l2.take i)))
      case atStart => exact ⟨0, none, 0, [], [], Lf, rfl, ⟨Nat.zero_add _⟩, H7, ⟨fun _ _ h => h⟩, ⟨by rw [List.take_zero]; exact RMX.nil _⟩⟩
      case round =>
        clear H7
        obtain ⟨i, Aw, cw, cs1, mids, Lf2, rfl, HI, H6, ML2, HVM⟩ := hrel
        have hi := HI.out
        cases gk with
        | succ k1 =>
          have hlt : i < l2.length := by omega
          have hnn := NN2.out
          have p1 : 0 ≤ (i : Int) := by omega
          have q1 : (i : Int) < (l2.length : Int) := by omega
          have d3 : decide ((i : Int) < (l2.length : Int)) = true := decide_eq_true q1
          have d4 : decide (i < l2.length) = true := decide_eq_true hlt
          have EW : Aside0 (wrap64 ((i : Int) + 1) = ((i + 1 : Nat) : Int)) := ⟨by unfold wrap64; omega⟩
          obtain ⟨_, Ay, cy, ey, hy0, hyl, hyr⟩ := at_M HR2.out (i : Int) p1 q1
          cases ey
          rw [Int.toNat_natCast] at hy0
          have hy1 := pw_cell_below H6.out.hb hy0
          have HY := Aside0.mk (And.intro hyl hyr)
          have LT := Aside0.mk hlt
          replace p1 := eq_true p1
          replace q1 := eq_true q1
          clear hi hlt hnn hy0 hyl hyr
          go_wp2_with fail
          have H7 := Aside0.mk (H6.out.nil 35 (by decide))
          clear H6 hy1
          go_loopg [35, 8] (rdM l2 (i : Int)).length (fun kq v35 v8 w' => ∃ (j : Nat) (Al : Option Addr) (cl : Nat) (csl : List Value) (Lf3 : Value → List Int → Prop), v35 = .int .i64 (j : Int) ∧ v8 = .slice Al csl.length cl ∧ Aside0 (j + kq = (rdM l2 (i : Int)).length) ∧ Aside0 (Hq w [(gm, 25, #[.slice (some ad1) l1.length c1, .slice (some ad2) l2.length c2]), (gr, 25, #[.slice none 0 0, .slice none 0 0]), (go, 25, #[.slice Av cs0.length cv, .slice Aw cs1.length cw])] ((35, .slice Al csl.length cl, csl) :: (22, .slice Aw cs1.length cw, cs1) :: (35, .slice Av cs0.length cv, cs0) :: mids) Lf3 w') ∧ Aside0 (∀ v x, Lf2 v x → Lf3 v x) ∧ Aside0 (RV Lf3 csl ((rdM l2 (i : Int)).take j)))
          case atStart => exact ⟨0, none, 0, [], Lf2, rfl, rfl, ⟨Nat.zero_add _⟩, H7, ⟨fun _ _ h => h⟩, ⟨by rw [List.take_zero]; exact RV.nil _⟩⟩
          case round =>
            clear H7
            obtain ⟨j, Al, cl, csl, Lf3, rfl, rfl, HJ, H6, ML3, HVC⟩ := hrel
            have hj := HJ.out
            cases gk with
            | succ k2 =>
              have hlj : j < (rdM l2 (i : Int)).length := by omega
              have hnm := HBM.out i LT.out
              have p2 : 0 ≤ (j : Int) := by omega
              have q2 : (j : Int) < ((rdM l2 (i : Int)).length : Int) := by omega
              have d5 : decide ((j : Int) < ((rdM l2 (i : Int)).length : Int)) = true := decide_eq_true q2
              have d6 : decide (j < (rdM l2 (i : Int)).length) = true := decide_eq_true hlj
              have EJ : Aside0 (wrap64 ((j : Int) + 1) = ((j + 1 : Nat) : Int)) := ⟨by unfold wrap64; omega⟩
              obtain ⟨ady, Az, cz, ez, hz0, hzl, hzr⟩ := at_V HY.out.2 (j : Int) p2 q2
              cases ez
              rw [Int.toNat_natCast] at hz0
              have hz1 := pw_cell_below H6.out.hb hz0
              have HZ := Aside0.mk (And.intro (HBX.out i j LT.out hlj) (And.intro hzl hzr))
              have LTJ := Aside0.mk hlj
              replace p2 := eq_true p2
              replace q2 := eq_true q2
              clear hj hlj hnm hz0 hzl hzr
              go_wp2_with (first | (go_at_call 24; (with_reducible refine (slices_Clone_uint32_uint32.calls Az cz (rdV (rdM l2 (i : Int)) (j : Int)) (rdV (rdM l2 (i : Int)) (j : Int)) wr (Kd.C_below HZ.out.2.2 H6.out.hb) HZ.out.2.1 (clone_f HZ.out.1)).mono ?_); rintro e w6 ⟨vg, rfl, hR, hb⟩; obtain ⟨Ag, cg, rfl⟩ := Kd.R_slice hR; have H11 := Aside0.mk (H6.out.made hb hR); clear hR hb) | ((with_reducible refine gate_builtin (b := .append) (xs := #[.tmp 39, .tmp 42]) rfl ?_); at_builtin; refine print_append_cells (w0 := w) w.heap.size rfl (.tmp 39) (.tmp 42) 22 35 (.slice none 0 0) 1 24 rfl Tryd.underlying22 info_35S rfl (by decide) (by decide) (.slice Al csl.length cl) csl.length csl [(.slice Ag (rdV (rdM l2 (i : Int)) (j : Int)).length cg)] rfl rfl rfl (by intro u hu; rw [List.mem_singleton.1 hu]; rfl) (H11.out.rows 0 _ rfl).1 H11.out.hb (below_size H11.out.hb) (by have h1_ := HVC.out.1; rw [List.length_take] at h1_; have h2_ := HBM.out _ LT.out; omega) ?_; intro v1 w7 hown hb hg hat; obtain ⟨cs2, ecs⟩ : ∃ x, x = csl ++ [(.slice Ag (rdV (rdM l2 (i : Int)) (j : Int)).length cg)] := ⟨_, rfl⟩; have hown2 : w7.ownsRow w.heap.size 35 1 v1 cs2.length cs2 := (by rw [ecs, List.length_append, List.length_singleton]; exact hown); obtain ⟨Au, cu, rfl⟩ := own_slice hown2; have H12 := Aside0.mk (H11.out.grow hown2 hg hat hb); have ECS := Aside0.mk ecs; clear hown hown2 hb hg hat ecs H11))
              go_roundg k2
              case measure => omega
              case rel => exact ⟨j + 1, _, _, cs2, _, by first | rfl | (rw [EJ.out]), rfl, ⟨by have := HJ.out; omega⟩, H12, ⟨fun _ _ h => Or.inl (ML3.out _ _ h)⟩, ⟨by rw [ECS.out, takeV LTJ.out]; exact (HVC.out.add _ _).snoc (Or.inr ⟨rfl, rfl⟩)⟩⟩
            | zero =>
              obtain rfl : j = (rdM l2 (i : Int)).length := by omega
              have d5 : decide (((rdM l2 (i : Int)).length : Int) < ((rdM l2 (i : Int)).length : Int)) = false := decide_eq_false (by omega)
              have HVF := Aside0.mk (show RV Lf3 csl (rdM l2 (i : Int)) by have h := HVC.out; rwa [List.take_length] at h)
              have H11 := Aside0.mk H6.out.rot3
              obtain ⟨y0, y1, y2, y3⟩ := cells2 (H11.out.get 2 rfl)
              clear hj HVC H6
              go_wp2_with (first | ((with_reducible refine gate_builtin (b := .append) (xs := #[.tmp 46, .tmp 48]) rfl ?_); at_builtin; refine print_append_cells (w0 := w) w.heap.size rfl (.tmp 46) (.tmp 48) 23 22 (.slice none 0 0) 1 24 rfl Tryd.underlying23 info_22S rfl (by decide) (by decide) (.slice Aw cs1.length cw) cs1.length cs1 [.slice Al csl.length cl] rfl rfl rfl (by intro u hu; rw [List.mem_singleton.1 hu]; rfl) (H11.out.rows 0 _ rfl).1 H11.out.hb (below_size H11.out.hb) (by have h1_ := HVM.out.1; rw [List.length_take] at h1_; have h2_ := NN2.out; omega) ?_; intro v1 w7 hown hb hg hat; obtain ⟨cs2, ecs⟩ : ∃ x, x = cs1 ++ [.slice Al csl.length cl] := ⟨_, rfl⟩; have hown2 : w7.ownsRow w.heap.size 22 1 v1 cs2.length cs2 := (by rw [ecs, List.length_append, List.length_singleton]; exact hown); obtain ⟨Au, cu, rfl⟩ := own_slice hown2; have H12 := Aside0.mk (H11.out.grow hown2 hg hat hb); have ECS := Aside0.mk ecs; clear hown hown2 hb hg hat ecs H11; obtain ⟨y0, y1, z0, z1⟩ := cells2 (H12.out.get 2 rfl)))
              go_roundg k1
              case measure => omega
              case rel => exact ⟨i + 1, _, _, cs2, (35, .slice Al csl.length cl, csl) :: mids, Lf3, by first | rfl | (rw [EW.out]), ⟨by have := HI.out; omega⟩, ⟨H12.out.put 2 rfl 1 _ rfl⟩, ⟨fun _ _ h => ML3.out _ _ (ML2.out _ _ h)⟩, ⟨by
                rw [ECS.out, takeM LT.out]
                exact (HVM.out.lf ML3.out).snoc HVF.out⟩⟩
        | zero =>
          obtain rfl : i = l2.length := by omega
          have d3 : decide ((l2.length : Int) < (l2.length : Int)) = false := decide_eq_false (by omega)
          have HVF := Aside0.mk (show RMX mids Lf2 cs1 l2 by have h := HVM.out; rwa [List.take_length] at h)
          clear hi HVM
          obtain ⟨y0, y1, y2, y3⟩ := cells2 (H6.out.get 2 rfl)
          obtain ⟨x0, x1, x2, x3⟩ := cells2 (H6.out.get 1 rfl)
          go_wp2
          have HF := (H6.out.put 1 rfl 0 (.slice Av cs0.length cv) rfl).put 1 rfl 1 (.slice Aw cs1.length cw) rfl
          refine bodyPost_ret (results_cell_row rfl _ _ gr 25 #[.slice Av cs0.length cv, .slice Aw cs1.length cw] (0, 0) _ rfl (HF.get 1 rfl) Tryd.underlying25 rfl (by kernel_rfl)) rfl ?_
          exact ⟨Av, Aw, cv, cw, cs0, cs1, mids, Lf2, by first | rfl | (simp; done), (Hq.less (bs := []) HF).swap, ML2.out _ _ HN.out, HV0.out.mono ML2.out, HVF.out⟩

/-! ### slices_IndexFunc_uint32_uint32_43_f29: function 43 -/
def slices_IndexFunc_uint32_uint32_43_f29.l0 : Nat → List Int → Int → Int → Option (Int)
  | 0, _, _, _ => none
  | k + 1, x0, x7, x8 => if x8 < x7 then (if 0 ≤ x8 then (if x8 < (x0.length : Int) then ((ideal_Turn_1.f (rd x0 x8)).bind fun t166 => (if t166 = true then (some x8) else (slices_IndexFunc_uint32_uint32_43_f29.l0 k x0 x7 (wrap64 (x8 + 1))))) else (none)) else (none)) else (some (-1))
def slices_IndexFunc_uint32_uint32_43_f29.f (k : Nat) (l0 : List Int) (a1 : Int) : Option (Int) := slices_IndexFunc_uint32_uint32_43_f29.l0 k l0 (l0.length : Int) 0
theorem slices_IndexFunc_uint32_uint32_43_f29.mono_l : ∀ k, (∀ y0 y1 y2, LeO (slices_IndexFunc_uint32_uint32_43_f29.l0 k y0 y1 y2) (slices_IndexFunc_uint32_uint32_43_f29.l0 (k + 1) y0 y1 y2))
  | 0 => fun _ _ _ r h => by simp [slices_IndexFunc_uint32_uint32_43_f29.l0] at h
  | k + 1 => by
    have ih0 := slices_IndexFunc_uint32_uint32_43_f29.mono_l k
    · intro y0 y1 y2
      unfold slices_IndexFunc_uint32_uint32_43_f29.l0
      repeat' first
      | (with_reducible exact ih0 _ _ _)
      | (with_reducible exact LeO.refl _)
      | (with_reducible exact LeO.none _)
      | (with_reducible refine LeO.ite ?_ ?_)
      | (with_reducible refine LeO.bind ?_ (fun _ => ?_))
      | exact ih0 _ _ _
      | exact LeO.none _
      | refine LeO.ite ?_ ?_
      | refine LeO.bind ?_ (fun _ => ?_)
theorem slices_IndexFunc_uint32_uint32_43_f29.mono : ∀ a0 a1 k, LeO (slices_IndexFunc_uint32_uint32_43_f29.f k a0 a1) (slices_IndexFunc_uint32_uint32_43_f29.f (k + 1) a0 a1) := by
  intro a0 a1 k
  have ih0 := slices_IndexFunc_uint32_uint32_43_f29.mono_l k
  unfold slices_IndexFunc_uint32_uint32_43_f29.f
  repeat' first
      | (with_reducible exact ih0 _ _ _)
      | (with_reducible exact LeO.refl _)
      | (with_reducible exact LeO.none _)
      | (with_reducible refine LeO.ite ?_ ?_)
      | (with_reducible refine LeO.bind ?_ (fun _ => ?_))
      | exact ih0 _ _ _
      | exact LeO.none _
      | refine LeO.ite ?_ ?_
      | refine LeO.bind ?_ (fun _ => ?_)
set_option maxHeartbeats 8000000 in
set_option maxRecDepth 100000 in
theorem slices_IndexFunc_uint32_uint32_43_f29.calls (k : Nat) (A0 : Option Addr) (c0 : Nat) (l0 : List Int) (a1 : Int) (r : Int) (w : World) (hr0 : Kd.C (Kd.int .u32) w A0 l0.length l0) (hc0 : l0.length ≤ c0) (h : slices_IndexFunc_uint32_uint32_43_f29.f k l0 a1 = some r) :
    Calls Tryd.prog 43 #[.slice A0 l0.length c0, .func (.func 29) #[] #[]] w fun e w' => e = .returned (.int .i64 r) ∧ Drawn0 w w' := by
  have HR0 := Aside0.mk hr0
  have HC0 := Aside0.mk hc0
  clear hr0 hc0
  have H : (slices_IndexFunc_uint32_uint32_43_f29.l0 k l0 (l0.length : Int) 0) = some r := h
  clear h
  have H' := Aside0.mk H
  clear H
  go_enter Tryd.func43, Tryd.ntmps43
  go_wp2
  go_loopg [8] k (fun kq v8 w' => ∃ (x8_1 : Int), v8 = .int .i64 x8_1 ∧ Aside0 (slices_IndexFunc_uint32_uint32_43_f29.l0 kq l0 (l0.length : Int) x8_1 = some r) ∧ Aside0 (kq ≤ k) ∧ Drawn0 w w')
  case atStart => exact ⟨(0), (by first | rfl | (simp; done) | (simp [*]; done)), H', ⟨Nat.le_refl _⟩, by repeat (first | exact Drawn0.refl _ | apply Drawn0.step)⟩
  case round =>
    clear H'
    try clear p2
    obtain ⟨x8_1, rfl, HA, HK1, ⟨m1, rfl⟩⟩ := hrel
    cases gk with
    | zero => exact absurd HA.out (by simp [slices_IndexFunc_uint32_uint32_43_f29.l0])
    | succ k1 =>
      have H := HA.out
      clear HA
      simp only [slices_IndexFunc_uint32_uint32_43_f29.l0] at H
      by_cases c3 : x8_1 < (l0.length : Int)
      · rw [if_pos c3] at H
        have c3b0 : decide (x8_1 < (l0.length : Int)) = true := decide_eq_true c3
        clear c3
        by_cases c4 : 0 ≤ x8_1
        · rw [if_pos c4] at H
          have c4b0 : decide (0 ≤ x8_1) = true := decide_eq_true c4
          clear c4
          by_cases c5 : x8_1 < (l0.length : Int)
          · rw [if_pos c5] at H
            have c5b0 : decide (x8_1 < (l0.length : Int)) = true := decide_eq_true c5
            clear c5
            replace H := Option.bind_eq_some_iff.mp H
            obtain ⟨t166, A60, H⟩ := H
            replace H : (if t166 = true then (some x8_1) else (slices_IndexFunc_uint32_uint32_43_f29.l0 k1 l0 (l0.length : Int) (wrap64 (x8_1 + 1)))) = some r := H
            have A6 := Aside0.mk A60
            clear A60
            by_cases c7 : t166 = true
            · subst c7
              have H1 : (some x8_1) = some r := by rw [if_pos rfl] at H; exact H
              clear H
              have H := H1
              clear H1
              obtain rfl := Option.some.inj H
              have p165 : 0 ≤ (x8_1 : Int) := of_decide_eq_true (by first | (with_reducible assumption) | assumption)
              have q165 : x8_1 < (l0.length : Int) := of_decide_eq_true (by first | (with_reducible assumption) | assumption)
              obtain ⟨ad165, e165, hx165_0⟩ := Kd.at_int HR0.out x8_1 p165 q165
              cases e165
              replace p165 := eq_true p165
              replace q165 := eq_true q165
              go_wp2_with (first | (go_at_call 29; (with_reducible refine (ideal_Turn_1.calls (rd l0 x8_1) true _ A6.out).mono ?_); rintro e w' ⟨rfl, ⟨nd, rfl⟩⟩; skip))
              go_ret
              exact ⟨by first | rfl | (simp; done) | (simp [*]; done), by repeat (first | exact Drawn0.refl _ | apply Drawn0.step)⟩
            · replace c7 := Bool.eq_false_iff.mpr c7
              subst c7
              have H1 : (slices_IndexFunc_uint32_uint32_43_f29.l0 k1 l0 (l0.length : Int) (wrap64 (x8_1 + 1))) = some r := by rw [if_neg (show ¬ (false = true) by decide)] at H; exact H
              clear H
              have H := H1
              clear H1
              have H' := Aside0.mk H
              clear H
              have p165 : 0 ≤ (x8_1 : Int) := of_decide_eq_true (by first | (with_reducible assumption) | assumption)
              have q165 : x8_1 < (l0.length : Int) := of_decide_eq_true (by first | (with_reducible assumption) | assumption)
              obtain ⟨ad165, e165, hx165_0⟩ := Kd.at_int HR0.out x8_1 p165 q165
              cases e165
              replace p165 := eq_true p165
              replace q165 := eq_true q165
              go_wp2_with (first | (go_at_call 29; (with_reducible refine (ideal_Turn_1.calls (rd l0 x8_1) false _ A6.out).mono ?_); rintro e w' ⟨rfl, ⟨nd, rfl⟩⟩; skip))
              go_roundg k1
              case measure => have := HK1.out; omega
              case rel => exact ⟨(wrap64 (x8_1 + 1)), (by first | rfl | (simp; done) | (simp [*]; done)), H', ⟨by have := HK1.out; omega⟩, by repeat (first | exact Drawn0.refl _ | apply Drawn0.step)⟩
          · rw [if_neg c5] at H
            exact absurd H (by simp)
        · rw [if_neg c4] at H
          exact absurd H (by simp)
      · rw [if_neg c3] at H
        have c3b0 : decide (x8_1 < (l0.length : Int)) = false := decide_eq_false c3
        clear c3
        obtain rfl := Option.some.inj H
        go_wp2
        go_ret
        exact ⟨by first | rfl | (simp; done) | (simp [*]; done), by repeat (first | exact Drawn0.refl _ | apply Drawn0.step)⟩

/-! ### slices_ContainsFunc_uint32_uint32_28_f29: function 28 -/
def slices_ContainsFunc_uint32_uint32_28_f29.f (k : Nat) (l0 : List Int) (a1 : Int) : Option (Bool) := (slices_IndexFunc_uint32_uint32_43_f29.f k l0 0).bind fun t167 => (some (decide (t167 ≥ 0)))
theorem slices_ContainsFunc_uint32_uint32_28_f29.mono : ∀ a0 a1 k, LeO (slices_ContainsFunc_uint32_uint32_28_f29.f k a0 a1) (slices_ContainsFunc_uint32_uint32_28_f29.f (k + 1) a0 a1) := by
  intro a0 a1 k
  unfold slices_ContainsFunc_uint32_uint32_28_f29.f
  repeat' first
      | (with_reducible exact slices_IndexFunc_uint32_uint32_43_f29.mono _ _ _)
      | (with_reducible exact LeO.refl _)
      | (with_reducible exact LeO.none _)
      | (with_reducible refine LeO.ite ?_ ?_)
      | (with_reducible refine LeO.bind ?_ (fun _ => ?_))
      | exact slices_IndexFunc_uint32_uint32_43_f29.mono _ _ _
      | exact LeO.none _
      | refine LeO.ite ?_ ?_
      | refine LeO.bind ?_ (fun _ => ?_)
set_option maxHeartbeats 8000000 in
set_option maxRecDepth 100000 in
theorem slices_ContainsFunc_uint32_uint32_28_f29.calls (k : Nat) (A0 : Option Addr) (c0 : Nat) (l0 : List Int) (a1 : Int) (r : Bool) (w : World) (hr0 : Kd.C (Kd.int .u32) w A0 l0.length l0) (hc0 : l0.length ≤ c0) (h : slices_ContainsFunc_uint32_uint32_28_f29.f k l0 a1 = some r) :
    Calls Tryd.prog 28 #[.slice A0 l0.length c0, .func (.func 29) #[] #[]] w fun e w' => e = .returned (.bool r) ∧ Drawn0 w w' := by
  have HR0 := Aside0.mk hr0
  have HC0 := Aside0.mk hc0
  clear hr0 hc0
  have H : ((slices_IndexFunc_uint32_uint32_43_f29.f k l0 0).bind fun t167 => (some (decide (t167 ≥ 0)))) = some r := h
  clear h
  replace H := Option.bind_eq_some_iff.mp H
  obtain ⟨t167, A30, H⟩ := H
  replace H : (some (decide (t167 ≥ 0))) = some r := H
  have A3 := Aside0.mk A30
  clear A30
  obtain rfl := Option.some.inj H
  go_enter Tryd.func28, Tryd.ntmps28
  go_wp2_with (first | ((with_reducible refine gate_callee (f := 43) rfl ?_); refine goesL_ (some 7) rfl rfl Tryd.func43 (by kernel_rfl) rfl #[.slice A0 l0.length c0, .func (.func 29) #[] #[]] rfl (by (try simp only [List.map_toArray, List.map_cons, List.map_nil]); first | done | rfl | (simp only [List.length_drop, List.length_take]; rfl)) ?_; (with_reducible refine (slices_IndexFunc_uint32_uint32_43_f29.calls k _ _ l0 0 t167 _ ?side1 ?side2 A3.out).mono ?_); (case side1 => repeat (first | exact HR0.out | (with_reducible refine Kd.C_alloc ?_ _) | (with_reducible refine Kd.C_drewN ?_ _) | (with_reducible refine Kd.C_drew ?_))); (case side2 => exact HC0.out); rintro e w' ⟨rfl, ⟨nd, rfl⟩⟩; refine ⟨_, rfl, ?_⟩))
  go_ret
  exact ⟨by first | rfl | (simp; done) | (simp [*]; done), by repeat (first | exact Drawn0.refl _ | apply Drawn0.step)⟩

end Go.Proofs.YtpicmnkkkgedeaaDoor.PAll
