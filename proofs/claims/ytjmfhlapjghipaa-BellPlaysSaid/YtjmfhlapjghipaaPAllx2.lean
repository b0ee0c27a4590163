/- The Go functions that the laws reach, as Lean functions, and that each call comes to what its function says. Written by a program of this session (a turned copy of the kit's print). No condition beyond those that each theorem states. -/
import Derived.Test.YtjmfhlapjghipaaPAllx0
import Derived.Test.YtjmfhlapjghipaaPAllx1
namespace Go.Proofs.Ytjmfhlapjghipaa.PAll
open Go.RowKit Go.Proofs.YtjmfhlapjghipaaW.PrintWords Go.Proofs.YtjmfhlapjghipaaW.PrintLast Go.Proofs.YtjmfhlapjghipaaW.PrintMore
attribute [local go_sem] max2_int min2_int max_two min_two max_three min_three max_four min_four   -- for this text's walks alone
set_option linter.unusedVariables false
set_option linter.unusedSimpArgs false

/-! ### moments in memory: the row of their pointers, and each one's own block -/
def ptrE (e : El) : Value := .pointer (some ⟨e.1, 0, none⟩)
/-- The moments l, whose pointers lie in the row v; pl: the place that each says that it has. -/
structure MoP (b : Nat) (W : World) (v : Value) (l : List El) (pl : Nat → Int) : Prop where
  row : W.ownsRow b 50 1 v l.length (l.map ptrE)
  mom : ∀ (x : Nat) (e : El), l[x]? = some e → W.heap[e.1]? = some (.cells #[.int .i64 e.2.1, .int .i64 e.2.2, .int .i64 (pl x)] 53 (0, 0)) ∧ b ≤ e.1
  nd : ∀ (x y : Nat) (e f : El), l[x]? = some e → l[y]? = some f → e.1 = f.1 → x = y
abbrev Mo (b : Nat) (W : World) (v : Value) (l : List El) : Prop := MoP b W v l (fun x => (x : Int))
/-- What is no pointer's row and no moment is kept. -/
def Obj.kept : Obj → Prop
  | .cells _ t _ => t ≠ 50 ∧ t ≠ 53
  | _ => True
structure Fr (b : Nat) (W W' : World) : Prop where
  hb : Below b W W'
  kp : ∀ (k : Nat) (o : Obj), W.heap[k]? = some o → Obj.kept o → W'.heap[k]? = some o
theorem Fr.refl (b : Nat) (W : World) : Fr b W W := ⟨Below.refl _ _, fun _ _ h _ => h⟩
theorem Fr.trans {b : Nat} {W W' W2 : World} (h : Fr b W W') (k : Fr b W' W2) : Fr b W W2 := ⟨h.hb.trans k.hb, fun i o hi ho => k.kp i o (h.kp i o hi ho) ho⟩
theorem Fr.of {b : Nat} {W W' : World} (h : Below W.heap.size W W') (hb : b ≤ W.heap.size) : Fr b W W' := ⟨h.mono hb, fun _ _ hi _ => blk_below hi h⟩
theorem Fr.set {b : Nat} {W W' : World} (h : Fr b W W') {g t : Nat} {cs : Array Value} (hg : W'.heap[g]? = some (.cells cs t (0, 0))) (ht : t = 50 ∨ t = 53) (hb : b ≤ g) (i : Nat) (u : Value) : Fr b W (W'.setCell ⟨g, i, none⟩ u) :=
  ⟨h.hb.setCell hb u, fun k o hk ho => by
    have h1 := h.kp k o hk ho
    by_cases e : k = g
    · subst e
      rw [hg] at h1
      obtain rfl := Option.some.inj h1
      exact absurd ht (fun h => h.elim ho.1 ho.2)
    · rw [Below.heap_setCell W' ⟨g, i, none⟩ u k e]
      exact h1⟩
theorem El.at {l : List El} {x : Nat} (h : x < l.length) : l[x]? = some (l.getD x d0) := by simp [List.getD, h]
theorem El.of {l : List El} {x : Nat} {e : El} (h : l[x]? = some e) : x < l.length ∧ e = l.getD x d0 := by
  have hx := (List.getElem?_eq_some_iff.1 h).1
  exact ⟨hx, by rw [El.at hx] at h; exact (Option.some.inj h).symm⟩
section
variable {b : Nat} {W W' : World} {v : Value} {l : List El} {pl : Nat → Int}
theorem MoP.below (h : MoP b W v l pl) (hb : Below W.heap.size W W') : MoP b W' v l pl :=
  ⟨pw_own_below h.row hb, fun x e hx => ⟨blk_below (h.mom x e hx).1 hb, (h.mom x e hx).2⟩, h.nd⟩
theorem MoP.slice (h : MoP b W v l pl) : ∃ A c, v = .slice A l.length c := by
  rcases h.row.2 with ⟨rfl, e⟩ | ⟨g, cap, cur, rfl, _⟩
  · exact ⟨none, 0, by rw [e]⟩
  · exact ⟨_, _, rfl⟩
theorem MoP.rowAt (h : MoP b W v l pl) {x : Nat} (hx : x < l.length) : ∃ ga cap cur, v = .slice (some ⟨ga, 0, none⟩) l.length cap ∧ b ≤ ga ∧ W.heap[ga]? = some (.cells cur 50 (0, 0)) ∧ l.length ≤ cap ∧ cap ≤ maxLen ∧ cur.size = cap ∧ cur.toList.take l.length = l.map ptrE := by
  obtain ⟨_, hr⟩ := h.row
  rcases hr with ⟨_, e⟩ | ⟨ga, cap, cur, rfl, hb, hh, h1, h2, h3, h4⟩
  · omega
  · exact ⟨ga, cap, cur, rfl, hb, hh, h1, h2, by rw [h3, Nat.mul_one], by rwa [Nat.mul_one] at h4⟩
theorem row_get {cur : Array Value} (h : cur.toList.take l.length = l.map ptrE) {y : Nat} (hy : y < l.length) : cur[y]? = some (ptrE (l.getD y d0)) := by
  have e1 : (l.map ptrE)[y]? = some (ptrE (l.getD y d0)) := by rw [List.getElem?_map, El.at hy]; rfl
  rw [← h, List.getElem?_take, if_pos hy] at e1
  rw [← Array.getElem?_toList]
  exact e1
theorem MoP.cells (h : MoP b W v l pl) {x : Nat} (hx : x < l.length) : W.cell? ⟨(l.getD x d0).1, 0, none⟩ = some (.int .i64 (l.getD x d0).2.1) ∧ W.cell? ⟨(l.getD x d0).1, 1, none⟩ = some (.int .i64 (l.getD x d0).2.2) ∧ W.cell? ⟨(l.getD x d0).1, 2, none⟩ = some (.int .i64 (pl x)) := by
  have hm := (h.mom x _ (El.at hx)).1
  exact ⟨(blk_cell hm 0).trans rfl, (blk_cell hm 1).trans rfl, (blk_cell hm 2).trans rfl⟩
theorem MoP.congr {pl' : Nat → Int} (h : MoP b W v l pl) (he : ∀ x : Nat, x < l.length → pl' x = pl x) : MoP b W v l pl' :=
  ⟨h.row, fun x e hx => by rw [he x (El.of hx).1]; exact h.mom x e hx, h.nd⟩
theorem MoP.ptr {ga n cap : Nat} (h : MoP b W (.slice (some ⟨ga, 0, none⟩) n cap) l pl) {x : Nat} (hx : x < l.length) : W.cell? ⟨ga, x, none⟩ = some (ptrE (l.getD x d0)) ∧ W.frozen? ⟨ga, x, none⟩ = false := by
  obtain ⟨ga', cap', cur, e, hb, hh, h1, h2, h3, h4⟩ := h.rowAt hx
  injection e with e1 e2 e3
  obtain rfl : ga = ga' := by injection e1 with e1; injection e1
  exact ⟨(blk_cell hh x).trans (row_get h4 hx), blk_frozen hh x⟩
theorem MoP.frz (h : MoP b W v l pl) {x : Nat} (hx : x < l.length) (y : Nat) : W.frozen? ⟨(l.getD x d0).1, y, none⟩ = false := blk_frozen (h.mom x _ (El.at hx)).1 y
theorem MoP.fset {W0 : World} (h : MoP b W v l pl) (hF : Fr b W0 W) {x : Nat} (hx : x < l.length) (y : Nat) (u : Value) : Fr b W0 (W.setCell ⟨(l.getD x d0).1, y, none⟩ u) := hF.set (h.mom x _ (El.at hx)).1 (Or.inr rfl) (h.mom x _ (El.at hx)).2 y u
/-- Two pointers change places. -/
theorem MoP.swap {ga n cap : Nat} (h : MoP b W (.slice (some ⟨ga, 0, none⟩) n cap) l pl) {i j : Nat} (hi : i < l.length) (hj : j < l.length) :
    MoP b ((W.setCell ⟨ga, i, none⟩ (ptrE (l.getD j d0))).setCell ⟨ga, j, none⟩ (ptrE (l.getD i d0))) (.slice (some ⟨ga, 0, none⟩) n cap) (swE l i j) (fun x => if x = j then pl i else if x = i then pl j else pl x) := by
  obtain ⟨ga', cap', cur, e, hb, hh, h1, h2, h3, h4⟩ := h.rowAt hi
  injection e with e1 e2 e3
  subst e2 e3
  obtain rfl : ga = ga' := by injection e1 with e1; injection e1
  have far : ∀ (x : Nat) (e : El), l[x]? = some e → ga ≠ e.1 := fun x e hx => blk_ne hh (h.mom x e hx).1 (by decide)
  have sg : ∀ (x : Nat) (e : El), (swE l i j)[x]? = some e → ∃ y : Nat, l[y]? = some e ∧ (y = if x = j then i else if x = i then j else x) := fun x e hx => by
    obtain ⟨hxl, rfl⟩ := El.of hx
    rw [swE_len] at hxl
    rw [swE_get l i j x hi hj]
    by_cases e1 : x = j
    · rw [if_pos e1, if_pos e1]; exact ⟨i, El.at hi, rfl⟩
    · rw [if_neg e1, if_neg e1]
      by_cases e2 : x = i
      · rw [if_pos e2, if_pos e2]; exact ⟨j, El.at hj, rfl⟩
      · rw [if_neg e2, if_neg e2]; exact ⟨x, El.at hxl, rfl⟩
  refine ⟨⟨by simp [swE_len], Or.inr ⟨ga, cap, _, by rw [swE_len], hb, blk_set (blk_set hh i _) j _, by rw [swE_len]; exact h1, h2, by simp [h3], ?_⟩⟩, fun x e hx => ?_, fun x y e f hx hy hef => ?_⟩
  · rw [Nat.mul_one, swE_len]
    simp only [Array.toList_setIfInBounds]
    rw [List.take_set, List.take_set, h4]
    unfold swE
    rw [List.map_set, List.map_set]
  · obtain ⟨y, hy, ey⟩ := sg x e hx
    refine ⟨?_, (h.mom y e hy).2⟩
    rw [Below.heap_setCell _ _ _ _ (far y e hy).symm, Below.heap_setCell _ _ _ _ (far y e hy).symm, (h.mom y e hy).1]
    have : pl y = if x = j then pl i else if x = i then pl j else pl x := by
      rw [ey]
      split
      · rfl
      · split <;> rfl
    rw [this]
  · obtain ⟨y1, h1', e1'⟩ := sg x e hx
    obtain ⟨y2, h2', e2'⟩ := sg y f hy
    have := h.nd y1 y2 e f h1' h2' hef
    split at e1' <;> split at e2' <;> (try split at e1') <;> (try split at e2') <;> omega
/-- A moment is told its place. -/
theorem MoP.place (h : MoP b W v l pl) {x : Nat} (hx : x < l.length) (p : Int) : MoP b (W.setCell ⟨(l.getD x d0).1, 2, none⟩ (.int .i64 p)) v l (fun y => if y = x then p else pl y) := by
  have hm := (h.mom x _ (El.at hx)).1
  obtain ⟨ga, cap, cur, rfl, hb, hh, _⟩ := h.rowAt hx
  have hne : ga ≠ (l.getD x d0).1 := blk_ne hh hm (by decide)
  refine ⟨own_setCell h.row (p := ⟨(l.getD x d0).1, 2, none⟩) (fun e => hne (Option.some.inj e).symm) _, fun y e hy => ?_, h.nd⟩
  refine ⟨?_, (h.mom y e hy).2⟩
  by_cases e2 : y = x
  · subst e2
    obtain rfl := (El.of hy).2
    rw [if_pos rfl]
    exact (blk_set hm 2 _).trans rfl
  · rw [if_neg e2]
    exact blk_far (h.mom y e hy).1 (fun e3 => e2 (h.nd y x e _ hy (El.at hx) e3)) _
/-- A moment is set anew. -/
theorem MoP.anew (h : MoP b W v l pl) {x : Nat} (hx : x < l.length) (p : Int) : MoP b (W.setCell ⟨(l.getD x d0).1, 0, none⟩ (.int .i64 p)) v (l.set x ((l.getD x d0).1, p, (l.getD x d0).2.2)) pl := by
  have hm := (h.mom x _ (El.at hx)).1
  obtain ⟨ga, cap, cur, rfl, hb, hh, _⟩ := h.rowAt hx
  have hne : ga ≠ (l.getD x d0).1 := blk_ne hh hm (by decide)
  have same : ∀ (y : Nat) (e : El), (l.set x ((l.getD x d0).1, p, (l.getD x d0).2.2))[y]? = some e → ∃ f, l[y]? = some f ∧ f.1 = e.1 ∧ (y ≠ x → f = e) ∧ (y = x → e = ((l.getD x d0).1, p, (l.getD x d0).2.2)) := fun y e hy => by
    rw [List.getElem?_set] at hy
    by_cases e2 : x = y
    · subst e2
      rw [if_pos rfl, if_pos hx] at hy
      obtain rfl := Option.some.inj hy
      exact ⟨_, El.at hx, rfl, fun h => absurd rfl h, fun _ => rfl⟩
    · rw [if_neg e2] at hy
      exact ⟨e, hy, rfl, fun _ => rfl, fun h => absurd h.symm e2⟩
  refine ⟨?_, fun y e hy => ?_, fun y z e f hy hz hef => ?_⟩
  · have hr := own_setCell h.row (p := ⟨(l.getD x d0).1, 0, none⟩) (fun e => hne (Option.some.inj e).symm) (.int .i64 p)
    have e1 : (l.set x ((l.getD x d0).1, p, (l.getD x d0).2.2)).map ptrE = l.map ptrE := by
      rw [List.map_set]
      refine List.ext_getElem? fun y => ?_
      rw [List.getElem?_set]
      by_cases e2 : x = y
      · subst e2
        rw [if_pos rfl, List.getElem?_map, El.at hx]
        simp [hx, ptrE]
      · rw [if_neg e2]
    rw [e1, List.length_set]
    exact hr
  · obtain ⟨f, hf, h1, h2, h3⟩ := same y e hy
    refine ⟨?_, by rw [← h1]; exact (h.mom y f hf).2⟩
    by_cases e2 : y = x
    · subst e2
      obtain rfl := h3 rfl
      exact (blk_set hm 0 _).trans rfl
    · obtain rfl := h2 e2
      exact blk_far (h.mom y f hf).1 (fun e3 => e2 (h.nd y x f _ hf (El.at hx) e3)) _
  · obtain ⟨e', he, h1, _⟩ := same y e hy
    obtain ⟨f', hf, h2, _⟩ := same z f hz
    exact h.nd y z e' f' he hf (by rw [h1, h2]; exact hef)
end
def cmpV (a b : Int) : Int := if a < b then -1 else if a > b then 1 else 0
theorem compare_f (a b : Int) : cmp_Compare_int.f a b = some (cmpV a b) := by
  unfold cmp_Compare_int.f cmp_isNaN_int.f cmpV
  simp only [bne_self_eq_false, Option.bind_some, Bool.false_eq_true, if_false]
  split
  · rfl
  · split <;> rfl
def orV (x y : Int) : Int := if x = 0 then y else x
theorem or_f (x y : Int) : cmp_Or_int.f 3 [x, y] = some (orV x y) := by
  unfold orV cmp_Or_int.f
  have e0 : rd [x, y] 0 = x := rfl
  have e1 : rd [x, y] 1 = y := rfl
  have w1 : wrap64 (0 + 1) = 1 := by unfold wrap64; omega
  have w2 : wrap64 (1 + 1) = 2 := by unfold wrap64; omega
  simp only [cmp_Or_int.l0, List.length_cons, List.length_nil, e0, w1, e1, w2]
  by_cases h : x = 0
  · rw [if_pos h]
    by_cases h2 : y = 0
    · simp [h, h2]
    · simp [h, h2]
  · rw [if_neg h]
    simp [h]
theorem less_val (a1 w1 a2 w2 : Int) (g1 g2 : Nat) : decide (orV (cmpV a1 a2) (cmpV w1 w2) < 0) = lessE (g1, a1, w1) (g2, a2, w2) := by
  unfold orV cmpV lessE
  by_cases h1 : a1 < a2
  · simp [h1]
  · by_cases h2 : a1 > a2
    · have h3 : ¬ a1 = a2 := by omega
      simp [h1, h2, h3]
    · have h3 : a1 = a2 := by omega
      subst h3
      simp only [Int.lt_irrefl, gt_iff_lt, if_false, if_true, decide_false, Bool.false_or, decide_true, Bool.true_and]
      by_cases h4 : w1 < w2
      · simp [h4]
      · by_cases h5 : w2 < w1
        · simp [h4, h5]
        · simp [h4, h5]

/-! ### Less, Len -/
set_option maxHeartbeats 8000000 in
set_option maxRecDepth 100000 in
theorem less_w {b : Nat} {w : World} {v : Value} {l : List El} (h : Mo b w v l) (i j : Nat) (hi : i < l.length) (hj : j < l.length) :
    Calls Try.prog 36 #[v, .int .i64 (i : Int), .int .i64 (j : Int)] w fun e w' => e = .returned (.bool (lessE (l.getD i d0) (l.getD j d0))) ∧ Below w.heap.size w w' := by
  obtain ⟨ga, cap, cur, rfl, _, hh, _, _, _, hc0⟩ := h.rowAt hi
  have hc := fun y hy => row_get (y := y) hc0 hy
  obtain ⟨m1, m2, _⟩ := h.cells hi
  obtain ⟨m3, m4, _⟩ := h.cells hj
  have r1 : w.cell? ⟨ga, i, none⟩ = some (ptrE (l.getD i d0)) := (blk_cell hh i).trans (hc i hi)
  have r2 : w.cell? ⟨ga, j, none⟩ = some (ptrE (l.getD j d0)) := (blk_cell hh j).trans (hc j hj)
  unfold ptrE at r1 r2
  clear hh hc hc0 h
  generalize l.getD i d0 = x at *
  generalize l.getD j d0 = y at *
  obtain ⟨gi, ai, wi⟩ := x
  obtain ⟨gj, aj, wj⟩ := y
  have HC := Aside0.mk (And.intro r1 (And.intro r2 (And.intro m1 (And.intro m2 (And.intro m3 m4)))))
  have q1 : (0 ≤ (i : Int)) = True := eq_true (by omega)
  have q2 : ((i : Int) < (l.length : Int)) = True := eq_true (by omega)
  have q3 : (0 ≤ (j : Int)) = True := eq_true (by omega)
  have q4 : ((j : Int) < (l.length : Int)) = True := eq_true (by omega)
  have LV := less_val ai wi aj wj gi gj
  have HLV := Aside0.mk LV
  clear LV r1 r2 m1 m2 m3 m4 hi hj
  go_enter Try.func36, Try.ntmps36
  go_wp2_with fail
  obtain ⟨wd, ewd⟩ : ∃ x, x = w.drew := ⟨_, rfl⟩
  have HBD : Aside0 (Below w.heap.size w wd) := ⟨by rw [ewd]; exact below_drew1 (Below.refl _ _)⟩
  refine start_ (n := 34) (S := fun w' => w'.cell? ⟨ga, i, none⟩ = some (.pointer (some ⟨gi, 0, none⟩)) ∧ w'.cell? ⟨ga, j, none⟩ = some (.pointer (some ⟨gj, 0, none⟩)) ∧ w'.cell? ⟨gi, 0, none⟩ = some (.int .i64 ai) ∧ w'.cell? ⟨gi, 1, none⟩ = some (.int .i64 wi) ∧ w'.cell? ⟨gj, 0, none⟩ = some (.int .i64 aj) ∧ w'.cell? ⟨gj, 1, none⟩ = some (.int .i64 wj)) (ds := [31]) #[false, false, false, false, false, false, false, false, false, false, false, false, false, false, false, false, false, false, false, false, false, false, false, false, false, false, false, false, false, false, false, false, false, false] (by kernel_rfl) rfl rfl (by rw [← ewd]; exact ⟨pw_cell_below HBD.out HC.out.1, pw_cell_below HBD.out HC.out.2.1, pw_cell_below HBD.out HC.out.2.2.1, pw_cell_below HBD.out HC.out.2.2.2.1, pw_cell_below HBD.out HC.out.2.2.2.2.1, pw_cell_below HBD.out HC.out.2.2.2.2.2⟩) (fun hHeld => ?_)
  rw [← ewd] at hHeld ⊢
  clear ewd
  refine pure_ (i := 0) (N := some 7) (v := ?_) (a' := ?_) #[true, false, false, false, false, false, false, false, false, false, false, false, false, false, false, false, false, false, false, false, false, false, false, false, false, false, false, false, false, false, false, false, false, false] rfl rfl (by kernel_rfl) (fun _ _ _ h => h) (Or.inl ⟨by rfl, ?_⟩) ?_ ?_
  rotate_left
  · intro w'
    go_simp
    with_reducible rfl
  rotate_left
  · simp only [Act.put, List.setIfInBounds_toArray, List.set_cons_zero, List.set_cons_succ, i64_w, i32_w]
    rfl
  refine pure_ (i := 1) (N := some 8) (v := ?_) (a' := ?_) #[true, true, false, false, false, false, false, false, false, false, false, false, false, false, false, false, false, false, false, false, false, false, false, false, false, false, false, false, false, false, false, false, false, false] rfl rfl (by kernel_rfl) (fun _ _ _ h => h) (Or.inl ⟨by rfl, ?_⟩) ?_ ?_
  rotate_left
  · intro w'
    go_simp
    with_reducible rfl
  rotate_left
  · simp only [Act.put, List.setIfInBounds_toArray, List.set_cons_zero, List.set_cons_succ, i64_w, i32_w]
    rfl
  refine pure_ (i := 2) (N := some 9) (v := ?_) (a' := ?_) #[true, true, true, false, false, false, false, false, false, false, false, false, false, false, false, false, false, false, false, false, false, false, false, false, false, false, false, false, false, false, false, false, false, false] rfl rfl (by kernel_rfl) (fun _ _ _ h => h) (Or.inl ⟨by rfl, ?_⟩) ?_ ?_
  rotate_left
  · intro w'
    go_simp
    with_reducible rfl
  rotate_left
  · simp only [Act.put, List.setIfInBounds_toArray, List.set_cons_zero, List.set_cons_succ, i64_w, i32_w]
    rfl
  refine pure_ (i := 7) (N := some 14) (v := ?_) (a' := ?_) #[true, true, true, false, false, false, false, true, false, false, false, false, false, false, false, false, false, false, false, false, false, false, false, false, false, false, false, false, false, false, false, false, false, false] rfl rfl (by kernel_rfl) (fun _ _ _ h => h) (Or.inl ⟨by rfl, ?_⟩) ?_ ?_
  rotate_left
  · intro w'
    go_simp
    with_reducible rfl
  rotate_left
  · simp only [Act.put, List.setIfInBounds_toArray, List.set_cons_zero, List.set_cons_succ, i64_w, i32_w]
    rfl
  refine pure_ (i := 8) (N := some 15) (v := ?_) (a' := ?_) #[true, true, true, false, false, false, false, true, true, false, false, false, false, false, false, false, false, false, false, false, false, false, false, false, false, false, false, false, false, false, false, false, false, false] rfl rfl (by kernel_rfl) (fun _ _ _ h => h) (Or.inl ⟨by rfl, ?_⟩) ?_ ?_
  rotate_left
  · intro w'
    go_simp
    with_reducible rfl
  rotate_left
  · simp only [Act.put, List.setIfInBounds_toArray, List.set_cons_zero, List.set_cons_succ, i64_w, i32_w]
    rfl
  refine pure_ (i := 9) (N := some 16) (v := ?_) (a' := ?_) #[true, true, true, false, false, false, false, true, true, true, false, false, false, false, false, false, false, false, false, false, false, false, false, false, false, false, false, false, false, false, false, false, false, false] rfl rfl (by kernel_rfl) (fun _ _ _ h => h) (Or.inl ⟨by rfl, ?_⟩) ?_ ?_
  rotate_left
  · intro w'
    go_simp
    with_reducible rfl
  rotate_left
  · simp only [Act.put, List.setIfInBounds_toArray, List.set_cons_zero, List.set_cons_succ, i64_w, i32_w]
    rfl
  refine pure_ (i := 15) (N := some 22) (v := ?_) (a' := ?_) #[true, true, true, false, false, false, false, true, true, true, false, false, false, false, false, true, false, false, false, false, false, false, false, false, false, false, false, false, false, false, false, false, false, false] rfl rfl (by kernel_rfl) (fun _ _ _ h => h) (Or.inl ⟨by rfl, ?_⟩) ?_ ?_
  rotate_left
  · intro w'
    go_simp
    with_reducible rfl
  rotate_left
  · simp only [Act.put, List.setIfInBounds_toArray, List.set_cons_zero, List.set_cons_succ, i64_w, i32_w]
    rfl
  refine pure_ (i := 16) (N := some 23) (v := ?_) (a' := ?_) #[true, true, true, false, false, false, false, true, true, true, false, false, false, false, false, true, true, false, false, false, false, false, false, false, false, false, false, false, false, false, false, false, false, false] rfl rfl (by kernel_rfl) (fun _ _ _ h => h) (Or.inl ⟨by rfl, ?_⟩) ?_ ?_
  rotate_left
  · intro w'
    go_simp
    with_reducible rfl
  rotate_left
  · simp only [Act.put, List.setIfInBounds_toArray, List.set_cons_zero, List.set_cons_succ, i64_w, i32_w]
    rfl
  refine pure_ (i := 17) (N := some 24) (v := ?_) (a' := ?_) #[true, true, true, false, false, false, false, true, true, true, false, false, false, false, false, true, true, true, false, false, false, false, false, false, false, false, false, false, false, false, false, false, false, false] rfl rfl (by kernel_rfl) (fun _ _ _ h => h) (Or.inl ⟨by rfl, ?_⟩) ?_ ?_
  rotate_left
  · intro w'
    go_simp
    with_reducible rfl
  rotate_left
  · simp only [Act.put, List.setIfInBounds_toArray, List.set_cons_zero, List.set_cons_succ, i64_w, i32_w]
    rfl
  refine pure_ (i := 22) (N := some 29) (v := ?_) (a' := ?_) #[true, true, true, false, false, false, false, true, true, true, false, false, false, false, false, true, true, true, false, false, false, false, true, false, false, false, false, false, false, false, false, false, false, false] rfl rfl (by kernel_rfl) (fun _ _ _ h => h) (Or.inl ⟨by rfl, ?_⟩) ?_ ?_
  rotate_left
  · intro w'
    go_simp
    with_reducible rfl
  rotate_left
  · simp only [Act.put, List.setIfInBounds_toArray, List.set_cons_zero, List.set_cons_succ, i64_w, i32_w]
    rfl
  refine pure_ (i := 23) (N := some 30) (v := ?_) (a' := ?_) #[true, true, true, false, false, false, false, true, true, true, false, false, false, false, false, true, true, true, false, false, false, false, true, true, false, false, false, false, false, false, false, false, false, false] rfl rfl (by kernel_rfl) (fun _ _ _ h => h) (Or.inl ⟨by rfl, ?_⟩) ?_ ?_
  rotate_left
  · intro w'
    go_simp
    with_reducible rfl
  rotate_left
  · simp only [Act.put, List.setIfInBounds_toArray, List.set_cons_zero, List.set_cons_succ, i64_w, i32_w]
    rfl
  refine pure_ (i := 24) (N := some 31) (v := ?_) (a' := ?_) #[true, true, true, false, false, false, false, true, true, true, false, false, false, false, false, true, true, true, false, false, false, false, true, true, true, false, false, false, false, false, false, false, false, false] rfl rfl (by kernel_rfl) (fun _ _ _ h => h) (Or.inl ⟨by rfl, ?_⟩) ?_ ?_
  rotate_left
  · intro w'
    go_simp
    with_reducible rfl
  rotate_left
  · simp only [Act.put, List.setIfInBounds_toArray, List.set_cons_zero, List.set_cons_succ, i64_w, i32_w]
    rfl
  refine take_ (i := 3) (N := some 10) (v := ?_) (a' := ?_) #[true, true, true, true, false, false, false, true, true, true, false, false, false, false, false, true, true, true, false, false, false, false, true, true, true, false, false, false, false, false, false, false, false, false] rfl rfl (by kernel_rfl) (fun _ _ _ h => h) (Or.inl ⟨by rfl, ?_⟩) hHeld ?_ ?_
  rotate_left
  · rintro w' ⟨s0, s1, s2, s3, s4, s5⟩
    go_simp
    with_reducible rfl
  rotate_left
  · simp only [Act.put, List.setIfInBounds_toArray, List.set_cons_zero, List.set_cons_succ, i64_w, i32_w]
    rfl
  refine pure_ (i := 4) (N := some 11) (v := ?_) (a' := ?_) #[true, true, true, true, true, false, false, true, true, true, false, false, false, false, false, true, true, true, false, false, false, false, true, true, true, false, false, false, false, false, false, false, false, false] rfl rfl (by kernel_rfl) (fun _ _ _ h => h) (Or.inl ⟨by rfl, ?_⟩) ?_ ?_
  rotate_left
  · intro w'
    go_simp
    with_reducible rfl
  rotate_left
  · simp only [Act.put, List.setIfInBounds_toArray, List.set_cons_zero, List.set_cons_succ, i64_w, i32_w]
    rfl
  refine pure_ (i := 5) (N := some 12) (v := ?_) (a' := ?_) #[true, true, true, true, true, true, false, true, true, true, false, false, false, false, false, true, true, true, false, false, false, false, true, true, true, false, false, false, false, false, false, false, false, false] rfl rfl (by kernel_rfl) (fun _ _ _ h => h) (Or.inl ⟨by rfl, ?_⟩) ?_ ?_
  rotate_left
  · intro w'
    go_simp
    with_reducible rfl
  rotate_left
  · simp only [Act.put, List.setIfInBounds_toArray, List.set_cons_zero, List.set_cons_succ, i64_w, i32_w]
    rfl
  refine take_ (i := 6) (N := some 13) (v := ?_) (a' := ?_) #[true, true, true, true, true, true, true, true, true, true, false, false, false, false, false, true, true, true, false, false, false, false, true, true, true, false, false, false, false, false, false, false, false, false] rfl rfl (by kernel_rfl) (fun _ _ _ h => h) (Or.inl ⟨by rfl, ?_⟩) hHeld ?_ ?_
  rotate_left
  · rintro w' ⟨s0, s1, s2, s3, s4, s5⟩
    go_simp
    with_reducible rfl
  rotate_left
  · simp only [Act.put, List.setIfInBounds_toArray, List.set_cons_zero, List.set_cons_succ, i64_w, i32_w]
    rfl
  refine take_ (i := 10) (N := some 17) (v := ?_) (a' := ?_) #[true, true, true, true, true, true, true, true, true, true, true, false, false, false, false, true, true, true, false, false, false, false, true, true, true, false, false, false, false, false, false, false, false, false] rfl rfl (by kernel_rfl) (fun _ _ _ h => h) (Or.inl ⟨by rfl, ?_⟩) hHeld ?_ ?_
  rotate_left
  · rintro w' ⟨s0, s1, s2, s3, s4, s5⟩
    go_simp
    with_reducible rfl
  rotate_left
  · simp only [Act.put, List.setIfInBounds_toArray, List.set_cons_zero, List.set_cons_succ, i64_w, i32_w]
    rfl
  refine pure_ (i := 11) (N := some 18) (v := ?_) (a' := ?_) #[true, true, true, true, true, true, true, true, true, true, true, true, false, false, false, true, true, true, false, false, false, false, true, true, true, false, false, false, false, false, false, false, false, false] rfl rfl (by kernel_rfl) (fun _ _ _ h => h) (Or.inl ⟨by rfl, ?_⟩) ?_ ?_
  rotate_left
  · intro w'
    go_simp
    with_reducible rfl
  rotate_left
  · simp only [Act.put, List.setIfInBounds_toArray, List.set_cons_zero, List.set_cons_succ, i64_w, i32_w]
    rfl
  refine pure_ (i := 12) (N := some 19) (v := ?_) (a' := ?_) #[true, true, true, true, true, true, true, true, true, true, true, true, true, false, false, true, true, true, false, false, false, false, true, true, true, false, false, false, false, false, false, false, false, false] rfl rfl (by kernel_rfl) (fun _ _ _ h => h) (Or.inl ⟨by rfl, ?_⟩) ?_ ?_
  rotate_left
  · intro w'
    go_simp
    with_reducible rfl
  rotate_left
  · simp only [Act.put, List.setIfInBounds_toArray, List.set_cons_zero, List.set_cons_succ, i64_w, i32_w]
    rfl
  refine take_ (i := 13) (N := some 20) (v := ?_) (a' := ?_) #[true, true, true, true, true, true, true, true, true, true, true, true, true, true, false, true, true, true, false, false, false, false, true, true, true, false, false, false, false, false, false, false, false, false] rfl rfl (by kernel_rfl) (fun _ _ _ h => h) (Or.inl ⟨by rfl, ?_⟩) hHeld ?_ ?_
  rotate_left
  · rintro w' ⟨s0, s1, s2, s3, s4, s5⟩
    go_simp
    with_reducible rfl
  rotate_left
  · simp only [Act.put, List.setIfInBounds_toArray, List.set_cons_zero, List.set_cons_succ, i64_w, i32_w]
    rfl
  refine take_ (i := 18) (N := some 25) (v := ?_) (a' := ?_) #[true, true, true, true, true, true, true, true, true, true, true, true, true, true, false, true, true, true, true, false, false, false, true, true, true, false, false, false, false, false, false, false, false, false] rfl rfl (by kernel_rfl) (fun _ _ _ h => h) (Or.inl ⟨by rfl, ?_⟩) hHeld ?_ ?_
  rotate_left
  · rintro w' ⟨s0, s1, s2, s3, s4, s5⟩
    go_simp
    with_reducible rfl
  rotate_left
  · simp only [Act.put, List.setIfInBounds_toArray, List.set_cons_zero, List.set_cons_succ, i64_w, i32_w]
    rfl
  refine pure_ (i := 19) (N := some 26) (v := ?_) (a' := ?_) #[true, true, true, true, true, true, true, true, true, true, true, true, true, true, false, true, true, true, true, true, false, false, true, true, true, false, false, false, false, false, false, false, false, false] rfl rfl (by kernel_rfl) (fun _ _ _ h => h) (Or.inl ⟨by rfl, ?_⟩) ?_ ?_
  rotate_left
  · intro w'
    go_simp
    with_reducible rfl
  rotate_left
  · simp only [Act.put, List.setIfInBounds_toArray, List.set_cons_zero, List.set_cons_succ, i64_w, i32_w]
    rfl
  refine pure_ (i := 20) (N := some 27) (v := ?_) (a' := ?_) #[true, true, true, true, true, true, true, true, true, true, true, true, true, true, false, true, true, true, true, true, true, false, true, true, true, false, false, false, false, false, false, false, false, false] rfl rfl (by kernel_rfl) (fun _ _ _ h => h) (Or.inl ⟨by rfl, ?_⟩) ?_ ?_
  rotate_left
  · intro w'
    go_simp
    with_reducible rfl
  rotate_left
  · simp only [Act.put, List.setIfInBounds_toArray, List.set_cons_zero, List.set_cons_succ, i64_w, i32_w]
    rfl
  refine take_ (i := 21) (N := some 28) (v := ?_) (a' := ?_) #[true, true, true, true, true, true, true, true, true, true, true, true, true, true, false, true, true, true, true, true, true, true, true, true, true, false, false, false, false, false, false, false, false, false] rfl rfl (by kernel_rfl) (fun _ _ _ h => h) (Or.inl ⟨by rfl, ?_⟩) hHeld ?_ ?_
  rotate_left
  · rintro w' ⟨s0, s1, s2, s3, s4, s5⟩
    go_simp
    with_reducible rfl
  rotate_left
  · simp only [Act.put, List.setIfInBounds_toArray, List.set_cons_zero, List.set_cons_succ, i64_w, i32_w]
    rfl
  refine take_ (i := 25) (N := some 32) (v := ?_) (a' := ?_) #[true, true, true, true, true, true, true, true, true, true, true, true, true, true, false, true, true, true, true, true, true, true, true, true, true, true, false, false, false, false, false, false, false, false] rfl rfl (by kernel_rfl) (fun _ _ _ h => h) (Or.inl ⟨by rfl, ?_⟩) hHeld ?_ ?_
  rotate_left
  · rintro w' ⟨s0, s1, s2, s3, s4, s5⟩
    go_simp
    with_reducible rfl
  rotate_left
  · simp only [Act.put, List.setIfInBounds_toArray, List.set_cons_zero, List.set_cons_succ, i64_w, i32_w]
    rfl
  refine pure_ (i := 26) (N := some 33) (v := ?_) (a' := ?_) #[true, true, true, true, true, true, true, true, true, true, true, true, true, true, false, true, true, true, true, true, true, true, true, true, true, true, true, false, false, false, false, false, false, false] rfl rfl (by kernel_rfl) (fun _ _ _ h => h) (Or.inl ⟨by rfl, ?_⟩) ?_ ?_
  rotate_left
  · intro w'
    go_simp
    with_reducible rfl
  rotate_left
  · simp only [Act.put, List.setIfInBounds_toArray, List.set_cons_zero, List.set_cons_succ, i64_w, i32_w]
    rfl
  refine pure_ (i := 27) (N := some 34) (v := ?_) (a' := ?_) #[true, true, true, true, true, true, true, true, true, true, true, true, true, true, false, true, true, true, true, true, true, true, true, true, true, true, true, true, false, false, false, false, false, false] rfl rfl (by kernel_rfl) (fun _ _ _ h => h) (Or.inl ⟨by rfl, ?_⟩) ?_ ?_
  rotate_left
  · intro w'
    go_simp
    with_reducible rfl
  rotate_left
  · simp only [Act.put, List.setIfInBounds_toArray, List.set_cons_zero, List.set_cons_succ, i64_w, i32_w]
    rfl
  refine take_ (i := 28) (N := some 35) (v := ?_) (a' := ?_) #[true, true, true, true, true, true, true, true, true, true, true, true, true, true, false, true, true, true, true, true, true, true, true, true, true, true, true, true, true, false, false, false, false, false] rfl rfl (by kernel_rfl) (fun _ _ _ h => h) (Or.inl ⟨by rfl, ?_⟩) hHeld ?_ ?_
  rotate_left
  · rintro w' ⟨s0, s1, s2, s3, s4, s5⟩
    go_simp
    with_reducible rfl
  rotate_left
  · simp only [Act.put, List.setIfInBounds_toArray, List.set_cons_zero, List.set_cons_succ, i64_w, i32_w]
    rfl
  refine one_ (i := 14) (N := some 21) #[true, true, true, true, true, true, true, true, true, true, true, true, true, true, true, true, true, true, true, true, true, true, true, true, true, true, true, true, true, false, false, false, false, false] rfl rfl (by kernel_rfl) (by decide) (fun K hK => ?_)
  refine goes_ Try.func39 (by kernel_rfl) rfl #[.int .i64 ai, .int .i64 aj] (by rfl) rfl rfl (by (try simp only [List.map_toArray, List.map_cons, List.map_nil]); first | done | rfl) ?_
  with_reducible refine (cmp_Compare_int.calls ai aj (cmpV ai aj) wd (compare_f ai aj)).mono ?_
  rintro e w1 ⟨rfl, hd⟩
  have HB1 := Aside0.mk (below_step HBD.out hd.below)
  clear hd
  refine ⟨_, rfl, ?_⟩
  refine hK.out _ _ ⟨pw_cell_below HB1.out HC.out.1, pw_cell_below HB1.out HC.out.2.1, pw_cell_below HB1.out HC.out.2.2.1, pw_cell_below HB1.out HC.out.2.2.2.1, pw_cell_below HB1.out HC.out.2.2.2.2.1, pw_cell_below HB1.out HC.out.2.2.2.2.2⟩ (fun hHeld => ?_)
  clear hK K
  refine norm_ (a' := ?_) ?_ ?_
  rotate_left
  · show Act.put _ (some 21) _ = _
    simp only [Act.put, List.setIfInBounds_toArray, List.set_cons_zero, List.set_cons_succ, i64_w, i32_w]
    rfl
  refine one_ (i := 29) (N := some 36) #[true, true, true, true, true, true, true, true, true, true, true, true, true, true, true, true, true, true, true, true, true, true, true, true, true, true, true, true, true, true, false, false, false, false] rfl rfl (by kernel_rfl) (by decide) (fun K hK => ?_)
  refine goes_ Try.func39 (by kernel_rfl) rfl #[.int .i64 wi, .int .i64 wj] (by rfl) rfl rfl (by (try simp only [List.map_toArray, List.map_cons, List.map_nil]); first | done | rfl) ?_
  with_reducible refine (cmp_Compare_int.calls wi wj (cmpV wi wj) w1 (compare_f wi wj)).mono ?_
  rintro e w2 ⟨rfl, hd⟩
  have HB2 := Aside0.mk (below_step HB1.out hd.below)
  clear hd
  refine ⟨_, rfl, ?_⟩
  refine hK.out _ _ ⟨pw_cell_below HB2.out HC.out.1, pw_cell_below HB2.out HC.out.2.1, pw_cell_below HB2.out HC.out.2.2.1, pw_cell_below HB2.out HC.out.2.2.2.1, pw_cell_below HB2.out HC.out.2.2.2.2.1, pw_cell_below HB2.out HC.out.2.2.2.2.2⟩ (fun hHeld => ?_)
  clear hK K
  refine norm_ (a' := ?_) ?_ ?_
  rotate_left
  · show Act.put _ (some 36) _ = _
    simp only [Act.put, List.setIfInBounds_toArray, List.set_cons_zero, List.set_cons_succ, i64_w, i32_w]
    rfl
  refine one_ (i := 30) (N := some 37) #[true, true, true, true, true, true, true, true, true, true, true, true, true, true, true, true, true, true, true, true, true, true, true, true, true, true, true, true, true, true, true, false, false, false] rfl rfl (by kernel_rfl) (by decide) (fun K hK => ?_)
  refine Kd.R_lit_step (Kd.int .i64) _ 3 ?hw (N := 37) ?hd (xs := [cmpV ai aj, cmpV wi wj]) (inner := [.int .i64 (cmpV ai aj), .int .i64 (cmpV wi wj)]) (ok := fun _ => True) (okp := fun _ => True) ?hr ?hp (fun _ hk => hk) trivial (Below.refl _ _) (Nat.le_refl _) (by simp) ?_
  case hd => rfl
  case hw => rfl
  case hr => first | (go_simp; done) | (go_simp; rfl)
  case hp => exact Reps.one rfl (Reps.one rfl (Reps.none _ _))
  intro v37 w3 ho hb hg_ hnew_
  clear hg_ hnew_
  obtain ⟨A7, c7, rfl⟩ := Kd.R_slice ho
  have HO := Aside0.mk (Kd.R_reads' ho).2
  have HB3 := Aside0.mk (below_step HB2.out hb)
  clear ho hb
  refine hK.out _ _ ⟨pw_cell_below HB3.out HC.out.1, pw_cell_below HB3.out HC.out.2.1, pw_cell_below HB3.out HC.out.2.2.1, pw_cell_below HB3.out HC.out.2.2.2.1, pw_cell_below HB3.out HC.out.2.2.2.2.1, pw_cell_below HB3.out HC.out.2.2.2.2.2⟩ (fun hHeld => ?_)
  clear hK K
  refine norm_ (a' := ?_) ?_ ?_
  rotate_left
  · show Act.put _ (some 37) _ = _
    simp only [Act.put, List.setIfInBounds_toArray, List.set_cons_zero, List.set_cons_succ, i64_w, i32_w]
    rfl
  refine last_ (i := 31) (N := some 38) #[true, true, true, true, true, true, true, true, true, true, true, true, true, true, true, true, true, true, true, true, true, true, true, true, true, true, true, true, true, true, true, true, false, false] rfl rfl (by kernel_rfl) (by decide) (fun K hK => ?_)
  refine goes_ Try.func38 (by kernel_rfl) rfl #[.slice A7 [cmpV ai aj, cmpV wi wj].length c7] (by rfl) rfl rfl (by (try simp only [List.map_toArray, List.map_cons, List.map_nil]); first | done | rfl) ?_
  with_reducible refine (cmp_Or_int.calls 3 A7 c7 [cmpV ai aj, cmpV wi wj] (orV (cmpV ai aj) (cmpV wi wj)) w3 HO.out.2 HO.out.1 (or_f _ _)).mono ?_
  rintro e w4 ⟨rfl, hd⟩
  have HB4 := Aside0.mk (below_step HB3.out hd.below)
  clear hd
  refine ⟨_, rfl, ?_⟩
  refine hK.out _ _ ?_
  clear hK K
  refine norm_ (a' := ?_) ?_ ?_
  rotate_left
  · show Act.put _ (some 38) _ = _
    simp only [Act.put, List.setIfInBounds_toArray, List.set_cons_zero, List.set_cons_succ, i64_w, i32_w]
    rfl
  refine pure_ (i := 32) (N := some 39) (v := ?_) (a' := ?_) #[true, true, true, true, true, true, true, true, true, true, true, true, true, true, true, true, true, true, true, true, true, true, true, true, true, true, true, true, true, true, true, true, true, false] rfl rfl (by kernel_rfl) (fun _ _ _ h => h) (Or.inl ⟨by rfl, ?_⟩) ?_ ?_
  rotate_left
  · intro w'
    go_simp
    with_reducible rfl
  rotate_left
  · simp only [Act.put, List.setIfInBounds_toArray, List.set_cons_zero, List.set_cons_succ, i64_w, i32_w]
    rfl
  refine pure_ (i := 33) (N := some 6) (v := ?_) (a' := ?_) #[true, true, true, true, true, true, true, true, true, true, true, true, true, true, true, true, true, true, true, true, true, true, true, true, true, true, true, true, true, true, true, true, true, true] rfl rfl (by kernel_rfl) (fun _ _ _ h => h) (Or.inl ⟨by rfl, ?_⟩) ?_ ?_
  rotate_left
  · intro w'
    go_simp
    with_reducible rfl
  rotate_left
  · simp only [Act.put, List.setIfInBounds_toArray, List.set_cons_zero, List.set_cons_succ, i64_w, i32_w]
    rfl
  refine done_ (by kernel_rfl) ?_
  go_wp2_with fail
  go_ret
  exact ⟨by rw [← HLV.out]; rfl, HB4.out⟩
set_option maxHeartbeats 8000000 in
theorem len_w (A : Option Addr) (n c : Nat) (w : World) : Calls Try.prog 35 #[.slice A n c] w fun e w' => e = .returned (.int .i64 (n : Int)) ∧ w' = w := by
  go_enter Try.func35, Try.ntmps35
  go_wp2
  go_ret
  exact ⟨rfl, rfl⟩

/-! ### Swap -/
theorem last_gen {P : Program} {ops : Array Oper} {Q : Exit → Act → World → Prop} {md : Region.Mode} {S : World → Prop} {ds : List Nat} {fuel : Nat} {l : Array Bool} {a : Act} {W : World} (I : World → Prop) (h : I W) (k : ∀ W', I W' → wpAnyLast P md ops Q S ds fuel l a W') : wpAnyLast P md ops Q S ds fuel l a W := k W h
theorem exit_gen {Q : Exit → Act → World → Prop} {e : Exit} {a : Act} {W : World} (I : World → Prop) (h : I W) (k : ∀ W', I W' → Q e a W') : Q e a W := k W h
theorem code_gen {P : Program} {c : Code} {Q : Exit → Act → World → Prop} {a : Act} {W : World} (I : World → Prop) (h : I W) (k : ∀ W', I W' → c.wp P Q a W') : c.wp P Q a W := k W h
theorem cell_at_set {W : World} {g t : Nat} {cs : Array Value} (h : W.heap[g]? = some (.cells cs t (0, 0))) (i j : Nat) (u : Value) (hj : j < cs.size) : ∃ z, (W.setCell ⟨g, i, none⟩ u).cell? ⟨g, j, none⟩ = some z := by
  rw [blk_cell (blk_set h i u) j]
  exact ⟨_, Array.getElem?_eq_getElem (by simpa using hj)⟩
set_option maxHeartbeats 8000000 in
set_option maxRecDepth 100000 in
theorem swap_w {b : Nat} {w : World} {v : Value} {l : List El} (h : Mo b w v l) (i j : Nat) (hi : i < l.length) (hj : j < l.length) :
    Calls Try.prog 37 #[v, .int .i64 (i : Int), .int .i64 (j : Int)] w fun e w' => e = .returned (.tuple #[]) ∧ Mo b w' v (swE l i j) ∧ Fr b w w' := by
  obtain ⟨ga, cap, cur, rfl, hb, hh, hn, _, hsz, hc0⟩ := h.rowAt hi
  obtain ⟨wd, ewd⟩ : ∃ x, x = w.drew := ⟨_, rfl⟩
  have HBD : Below w.heap.size w wd := by rw [ewd]; exact below_drew1 (Below.refl _ _)
  have hD : Mo b wd (.slice (some ⟨ga, 0, none⟩) l.length cap) l := h.below HBD
  have hhD := blk_below hh HBD
  have hFD : Fr b w wd := Fr.of HBD (Nat.le_trans hb (Nat.le_of_lt (blk_lt hh)))
  have z1 : wd.cell? ⟨ga, i, none⟩ = some (ptrE (l.getD i d0)) := (blk_cell hhD i).trans (row_get hc0 hi)
  have z2 : wd.cell? ⟨ga, j, none⟩ = some (ptrE (l.getD j d0)) := (blk_cell hhD j).trans (row_get hc0 hj)
  have z3 := blk_frozen hhD i
  have z4 := blk_frozen hhD j
  have hsw := hD.swap hi hj
  have hfs := (hFD.set hhD (Or.inl rfl) hb i (ptrE (l.getD j d0))).set (blk_set hhD i _) (Or.inl rfl) hb j (ptrE (l.getD i d0))
  obtain ⟨u2, q1⟩ := cell_at_set hhD i j (ptrE (l.getD j d0)) (by omega)
  have q2 := blk_frozen (blk_set hhD i (ptrE (l.getD j d0))) j
  have HSW := Aside0.mk hsw
  have HFS := Aside0.mk hfs
  unfold ptrE at z1 z2 q1 q2
  obtain ⟨gi, egi⟩ : ∃ x, x = (l.getD i d0).1 := ⟨_, rfl⟩
  obtain ⟨gj, egj⟩ : ∃ x, x = (l.getD j d0).1 := ⟨_, rfl⟩
  rw [← egi] at z1
  rw [← egj] at z2 q1 q2
  have EG := Aside0.mk (And.intro egi egj)
  have HI := Aside0.mk (And.intro hi hj)
  have p1 : (0 ≤ (i : Int)) = True := eq_true (by omega)
  have p2 : ((i : Int) < (l.length : Int)) = True := eq_true (by omega)
  have p3 : (0 ≤ (j : Int)) = True := eq_true (by omega)
  have p4 : ((j : Int) < (l.length : Int)) = True := eq_true (by omega)
  clear egi egj hsw hfs hD hh hFD HBD h hn hsz hc0 hi hj hhD
  go_enter Try.func37, Try.ntmps37
  go_wp2_with fail
  refine start_ (n := 16) (S := fun w' => w'.cell? ⟨ga, i, none⟩ = some (.pointer (some ⟨gi, 0, none⟩)) ∧ w'.cell? ⟨ga, j, none⟩ = some (.pointer (some ⟨gj, 0, none⟩))) (ds := [13, 15]) #[false, false, false, false, false, false, false, false, false, false, false, false, false, false, false, false] (by kernel_rfl) rfl rfl (by rw [← ewd]; exact ⟨z1, z2⟩) (fun hHeld => ?_)
  rw [← ewd] at hHeld ⊢
  clear ewd
  refine pure_ (i := 0) (N := some 6) (v := ?_) (a' := ?_) #[true, false, false, false, false, false, false, false, false, false, false, false, false, false, false, false] rfl rfl (by kernel_rfl) (fun _ _ _ h => h) (Or.inl ⟨by rfl, ?_⟩) ?_ ?_
  rotate_left
  · intro w'
    go_simp
    with_reducible rfl
  rotate_left
  · simp only [Act.put, List.setIfInBounds_toArray, List.set_cons_zero, List.set_cons_succ, i64_w, i32_w]
    rfl
  refine pure_ (i := 1) (N := some 7) (v := ?_) (a' := ?_) #[true, true, false, false, false, false, false, false, false, false, false, false, false, false, false, false] rfl rfl (by kernel_rfl) (fun _ _ _ h => h) (Or.inl ⟨by rfl, ?_⟩) ?_ ?_
  rotate_left
  · intro w'
    go_simp
    with_reducible rfl
  rotate_left
  · simp only [Act.put, List.setIfInBounds_toArray, List.set_cons_zero, List.set_cons_succ, i64_w, i32_w]
    rfl
  refine pure_ (i := 2) (N := some 8) (v := ?_) (a' := ?_) #[true, true, true, false, false, false, false, false, false, false, false, false, false, false, false, false] rfl rfl (by kernel_rfl) (fun _ _ _ h => h) (Or.inl ⟨by rfl, ?_⟩) ?_ ?_
  rotate_left
  · intro w'
    go_simp
    with_reducible rfl
  rotate_left
  · simp only [Act.put, List.setIfInBounds_toArray, List.set_cons_zero, List.set_cons_succ, i64_w, i32_w]
    rfl
  refine pure_ (i := 3) (N := some 9) (v := ?_) (a' := ?_) #[true, true, true, true, false, false, false, false, false, false, false, false, false, false, false, false] rfl rfl (by kernel_rfl) (fun _ _ _ h => h) (Or.inl ⟨by rfl, ?_⟩) ?_ ?_
  rotate_left
  · intro w'
    go_simp
    with_reducible rfl
  rotate_left
  · simp only [Act.put, List.setIfInBounds_toArray, List.set_cons_zero, List.set_cons_succ, i64_w, i32_w]
    rfl
  refine pure_ (i := 4) (N := some 10) (v := ?_) (a' := ?_) #[true, true, true, true, true, false, false, false, false, false, false, false, false, false, false, false] rfl rfl (by kernel_rfl) (fun _ _ _ h => h) (Or.inl ⟨by rfl, ?_⟩) ?_ ?_
  rotate_left
  · intro w'
    go_simp
    with_reducible rfl
  rotate_left
  · simp only [Act.put, List.setIfInBounds_toArray, List.set_cons_zero, List.set_cons_succ, i64_w, i32_w]
    rfl
  refine pure_ (i := 5) (N := some 11) (v := ?_) (a' := ?_) #[true, true, true, true, true, true, false, false, false, false, false, false, false, false, false, false] rfl rfl (by kernel_rfl) (fun _ _ _ h => h) (Or.inl ⟨by rfl, ?_⟩) ?_ ?_
  rotate_left
  · intro w'
    go_simp
    with_reducible rfl
  rotate_left
  · simp only [Act.put, List.setIfInBounds_toArray, List.set_cons_zero, List.set_cons_succ, i64_w, i32_w]
    rfl
  refine pure_ (i := 6) (N := some 12) (v := ?_) (a' := ?_) #[true, true, true, true, true, true, true, false, false, false, false, false, false, false, false, false] rfl rfl (by kernel_rfl) (fun _ _ _ h => h) (Or.inl ⟨by rfl, ?_⟩) ?_ ?_
  rotate_left
  · intro w'
    go_simp
    with_reducible rfl
  rotate_left
  · simp only [Act.put, List.setIfInBounds_toArray, List.set_cons_zero, List.set_cons_succ, i64_w, i32_w]
    rfl
  refine pure_ (i := 8) (N := some 14) (v := ?_) (a' := ?_) #[true, true, true, true, true, true, true, false, true, false, false, false, false, false, false, false] rfl rfl (by kernel_rfl) (fun _ _ _ h => h) (Or.inl ⟨by rfl, ?_⟩) ?_ ?_
  rotate_left
  · intro w'
    go_simp
    with_reducible rfl
  rotate_left
  · simp only [Act.put, List.setIfInBounds_toArray, List.set_cons_zero, List.set_cons_succ, i64_w, i32_w]
    rfl
  refine pure_ (i := 9) (N := some 15) (v := ?_) (a' := ?_) #[true, true, true, true, true, true, true, false, true, true, false, false, false, false, false, false] rfl rfl (by kernel_rfl) (fun _ _ _ h => h) (Or.inl ⟨by rfl, ?_⟩) ?_ ?_
  rotate_left
  · intro w'
    go_simp
    with_reducible rfl
  rotate_left
  · simp only [Act.put, List.setIfInBounds_toArray, List.set_cons_zero, List.set_cons_succ, i64_w, i32_w]
    rfl
  refine pure_ (i := 10) (N := some 16) (v := ?_) (a' := ?_) #[true, true, true, true, true, true, true, false, true, true, true, false, false, false, false, false] rfl rfl (by kernel_rfl) (fun _ _ _ h => h) (Or.inl ⟨by rfl, ?_⟩) ?_ ?_
  rotate_left
  · intro w'
    go_simp
    with_reducible rfl
  rotate_left
  · simp only [Act.put, List.setIfInBounds_toArray, List.set_cons_zero, List.set_cons_succ, i64_w, i32_w]
    rfl
  refine take_ (i := 7) (N := some 13) (v := ?_) (a' := ?_) #[true, true, true, true, true, true, true, true, true, true, true, false, false, false, false, false] rfl rfl (by kernel_rfl) (fun _ _ _ h => h) (Or.inl ⟨by rfl, ?_⟩) hHeld ?_ ?_
  rotate_left
  · rintro w' ⟨s0, s1⟩
    go_simp
    with_reducible rfl
  rotate_left
  · simp only [Act.put, List.setIfInBounds_toArray, List.set_cons_zero, List.set_cons_succ, i64_w, i32_w]
    rfl
  refine take_ (i := 11) (N := some 17) (v := ?_) (a' := ?_) #[true, true, true, true, true, true, true, true, true, true, true, true, false, false, false, false] rfl rfl (by kernel_rfl) (fun _ _ _ h => h) (Or.inl ⟨by rfl, ?_⟩) hHeld ?_ ?_
  rotate_left
  · rintro w' ⟨s0, s1⟩
    go_simp
    with_reducible rfl
  rotate_left
  · simp only [Act.put, List.setIfInBounds_toArray, List.set_cons_zero, List.set_cons_succ, i64_w, i32_w]
    rfl
  refine pure_ (i := 12) (N := some 18) (v := ?_) (a' := ?_) #[true, true, true, true, true, true, true, true, true, true, true, true, true, false, false, false] rfl rfl (by kernel_rfl) (fun _ _ _ h => h) (Or.inl ⟨by rfl, ?_⟩) ?_ ?_
  rotate_left
  · intro w'
    go_simp
    with_reducible rfl
  rotate_left
  · simp only [Act.put, List.setIfInBounds_toArray, List.set_cons_zero, List.set_cons_succ, i64_w, i32_w]
    rfl
  refine last_ (i := 13) (N := none) #[true, true, true, true, true, true, true, true, true, true, true, true, true, true, false, false] rfl rfl (by kernel_rfl) (by decide) (fun K hK => ?_)
  refine skip_ (w1 := ?_) ?_ ?_ ?_ ?_
  rotate_left
  · rfl
  · rfl
  · go_simp
    rfl
  refine hK.out _ _ ?_
  clear hK K
  refine last_gen (fun W => W.cell? ⟨ga, j, none⟩ = some u2 ∧ W.frozen? ⟨ga, j, none⟩ = false ∧ W = wd.setCell ⟨ga, i, none⟩ (.pointer (some ⟨gj, 0, none⟩))) ⟨q1, q2, rfl⟩ ?_
  rintro w1 ⟨y1, y2, ew1⟩
  have EW1 := Aside0.mk ew1
  clear ew1 z1 z2 z3 z4 q1 q2
  refine pure_ (i := 14) (N := some 19) (v := ?_) (a' := ?_) #[true, true, true, true, true, true, true, true, true, true, true, true, true, true, true, false] rfl rfl (by kernel_rfl) (fun _ _ _ h => h) (Or.inl ⟨by rfl, ?_⟩) ?_ ?_
  rotate_left
  · intro w'
    go_simp
    with_reducible rfl
  rotate_left
  · simp only [Act.put, List.setIfInBounds_toArray, List.set_cons_zero, List.set_cons_succ, i64_w, i32_w]
    rfl
  refine last_ (i := 15) (N := none) #[true, true, true, true, true, true, true, true, true, true, true, true, true, true, true, true] rfl rfl (by kernel_rfl) (by decide) (fun K hK => ?_)
  refine skip_ (w1 := ?_) ?_ ?_ ?_ ?_
  rotate_left
  · rfl
  · rfl
  · go_simp
    rfl
  refine hK.out _ _ ?_
  clear hK K
  refine done_ (by kernel_rfl) ?_
  refine exit_gen (fun W => MoP b W (.slice (some ⟨ga, 0, none⟩) l.length cap) (swE l i j) (fun x => if x = j then (i : Int) else if x = i then (j : Int) else (x : Int)) ∧ Fr b w W) ⟨?_, ?_⟩ ?_
  · rw [EW1.out, EG.out.1, EG.out.2]
    exact HSW.out
  · rw [EW1.out, EG.out.1, EG.out.2]
    exact HFS.out
  clear y1 y2 HSW HFS EG EW1 hHeld
  rintro w2 ⟨hM, hF⟩
  have hi := HI.out.1
  have hj := HI.out.2
  have hl := swE_len l i j
  have c1 := (hM.ptr (x := i) (by omega)).1
  have m1 := (hM.cells (x := i) (by omega)).2.2
  have f1 := hM.frz (x := i) (by omega) 2
  have hM2 := hM.place (x := i) (by omega) (i : Int)
  have hF2 := hM.fset hF (x := i) (by omega) 2 (.int .i64 (i : Int))
  unfold ptrE at c1
  obtain ⟨g1, eg1⟩ : ∃ x, x = ((swE l i j).getD i d0).1 := ⟨_, rfl⟩
  rw [← eg1] at c1 m1 f1 hM2 hF2
  have HM2 := Aside0.mk (And.intro hM2 hF2)
  clear eg1 hM hF hM2 hF2 hl hi hj
  go_upto_region 2 with fail
  refine code_gen (fun W => MoP b W (.slice (some ⟨ga, 0, none⟩) l.length cap) (swE l i j) (fun y => if y = i then (i : Int) else (if y = j then (i : Int) else if y = i then (j : Int) else (y : Int))) ∧ Fr b w W) HM2.out ?_
  rintro w3 ⟨hM, hF⟩
  clear HM2 c1 m1 f1
  have hi := HI.out.1
  have hj := HI.out.2
  have hl := swE_len l i j
  have c1 := (hM.ptr (x := j) (by omega)).1
  have m1 := (hM.cells (x := j) (by omega)).2.2
  have f1 := hM.frz (x := j) (by omega) 2
  have hM2 := (hM.place (x := j) (by omega) (j : Int)).congr (pl' := fun x => (x : Int)) (fun x hx => by
    show (x : Int) = if x = j then (j : Int) else if x = i then (i : Int) else if x = j then (i : Int) else if x = i then (j : Int) else (x : Int)
    by_cases e1 : x = j
    · rw [if_pos e1, e1]
    · rw [if_neg e1]
      by_cases e2 : x = i
      · rw [if_pos e2, e2]
      · rw [if_neg e2, if_neg e1, if_neg e2])
  have hF2 := hM.fset hF (x := j) (by omega) 2 (.int .i64 (j : Int))
  unfold ptrE at c1
  obtain ⟨g1, eg1⟩ : ∃ x, x = ((swE l i j).getD j d0).1 := ⟨_, rfl⟩
  rw [← eg1] at c1 m1 f1 hM2 hF2
  have HM2 := Aside0.mk (And.intro hM2 hF2)
  clear eg1 hM hF hM2 hF2 hl hi hj
  go_wp2_with fail
  exact bodyPost_end (results_none rfl _ _ _) rfl ⟨rfl, HM2.out.1, HM2.out.2⟩

/-! ### up, down -/
theorem m_val {name : String} {K : Nat} (hf : (Try.t55.methods.find? (fun x => x.name == name)).map (fun m => (m.path.toList, m.func)) = some ([], some (K, false))) {g : Nat} {W : World} {A : Option Addr} {n c : Nat} (h : W.cell? ⟨g, 0, none⟩ = some (.slice A n c)) : (method 184 55 (.pointer (some ⟨g, 0, none⟩)) name).run Try.prog W = .ok (K, .slice A n c) W := by
  have hu55 := Try.underlying55
  have hu47 := Try.underlying47
  obtain ⟨m, h1, h2⟩ := Option.map_eq_some_iff.1 hf
  injection h2 with h2 h3
  rw [show (184 : Nat) = 183 + 1 from rfl]
  unfold method
  go_simp
  have hp : m.path = #[] := Array.toList_eq_nil_iff.1 h2
  rw [if_pos hp]
  unfold follow
  go_simp
  unfold receiverAt
  go_simp
  unfold Place.get
  go_simp
  have hn : (Builtin.ssaWrapNilChk_ #[55] 55 #[.pointer (some ⟨g, 0, none⟩), strVal "", strVal ((name.splitOn ".").getLast?.getD name)]).run Try.prog W = .ok (.pointer (some ⟨g, 0, none⟩)) W := by rfl
  rw [hn]
  go_simp
theorem m_push {g : Nat} {W : World} : (method 184 55 (.pointer (some ⟨g, 0, none⟩)) "Push").run Try.prog W = .ok (42, .pointer (some ⟨g, 0, none⟩)) W := by kernel_rfl
theorem m_pop {g : Nat} {W : World} : (method 184 55 (.pointer (some ⟨g, 0, none⟩)) "Pop").run Try.prog W = .ok (41, .pointer (some ⟨g, 0, none⟩)) W := by kernel_rfl
theorem m_len {g : Nat} {W : World} {A : Option Addr} {n c : Nat} (h : W.cell? ⟨g, 0, none⟩ = some (.slice A n c)) : (method 184 55 (.pointer (some ⟨g, 0, none⟩)) "Len").run Try.prog W = .ok (35, .slice A n c) W := m_val (by kernel_rfl) h
theorem m_less {g : Nat} {W : World} {A : Option Addr} {n c : Nat} (h : W.cell? ⟨g, 0, none⟩ = some (.slice A n c)) : (method 184 55 (.pointer (some ⟨g, 0, none⟩)) "Less").run Try.prog W = .ok (36, .slice A n c) W := m_val (by kernel_rfl) h
theorem m_swap {g : Nat} {W : World} {A : Option Addr} {n c : Nat} (h : W.cell? ⟨g, 0, none⟩ = some (.slice A n c)) : (method 184 55 (.pointer (some ⟨g, 0, none⟩)) "Swap").run Try.prog W = .ok (37, .slice A n c) W := m_val (by kernel_rfl) h
set_option maxHeartbeats 8000000 in
set_option maxRecDepth 100000 in
theorem up_w {b g : Nat} {w : World} {A : Option Addr} {c : Nat} {m : Value} {l : List El} (hg : w.heap[g]? = some (.cells #[.slice A l.length c, m] 49 (0, 0))) (h : Mo b w (.slice A l.length c) l) (hbs : b ≤ w.heap.size) (j : Nat) (hj : j < l.length) (hlm : l.length ≤ 4611686018427387904) :
    Calls Try.prog 18 #[.iface 55 (.pointer (some ⟨g, 0, none⟩)), .int .i64 (j : Int)] w fun e w' => e = .returned (.tuple #[]) ∧ Mo b w' (.slice A l.length c) (upE j l j) ∧ Fr b w w' := by
  have HG : Aside0 (∀ W, Fr b w W → W.cell? ⟨g, 0, none⟩ = some (.slice A l.length c)) := ⟨fun W hF => (blk_cell (hF.kp _ _ hg ⟨by decide, by decide⟩) 0).trans rfl⟩
  have HS : Aside0 (∀ W, Fr b w W → b ≤ W.heap.size) := ⟨fun W hF => Nat.le_trans hbs hF.hb.size⟩
  have HM := Aside0.mk h
  have HJ := Aside0.mk (And.intro hj hlm)
  clear hg h hj hlm hbs
  go_enter Try.func18, Try.ntmps18
  go_wp2_with fail
  go_loopg [1] j (fun kq v1 W => ∃ (y : Nat) (l' : List El), v1 = .int .i64 (y : Int) ∧ Aside0 (y ≤ kq ∧ y < l.length ∧ l'.length = l.length ∧ upE kq l' y = upE j l j) ∧ Aside0 (Mo b W (.slice A l.length c) l') ∧ Aside0 (Fr b w W))
  case atStart => exact ⟨j, l, rfl, ⟨Nat.le_refl _, HJ.out.1, rfl, rfl⟩, HM, ⟨Fr.refl _ _⟩⟩
  case round =>
    clear HM
    obtain ⟨y, l', rfl, HY, HM, HF⟩ := hrel
    have c0 := HG.out _ HF.out
    have h1 := m_less c0
    have h2 := m_swap c0
    clear h1 h2
    go_upto_region 1 with fail
    obtain ⟨i, ei⟩ : ∃ i, i = (y - 1) / 2 := ⟨_, rfl⟩
    have e : wrap64 ((wrap64 ((y : Int) - 1)).tdiv 2) = (i : Int) := by
      have := HY.out
      have := HJ.out
      rw [ei]
      by_cases hy : y = 0
      · subst hy
        have e1 : wrap64 (((0 : Nat) : Int) - 1) = -1 := by unfold wrap64; omega
        rw [e1, show Int.tdiv (-1) 2 = 0 from by decide]
        unfold wrap64
        omega
      · have e1 : wrap64 ((y : Int) - 1) = (y : Int) - 1 := by unfold wrap64; omega
        rw [e1, Int.tdiv_eq_ediv_of_nonneg (by omega)]
        unfold wrap64
        omega
    rw [e]
    have EI := Aside0.mk ei
    clear e
    by_cases hy : i = y
    · have d1 : decide ((i : Int) = (y : Int)) = true := decide_eq_true (by omega)
      have d2 : ((i : Int) == (y : Int)) = true := beq_iff_eq.2 (by omega)
      have hR : upE gk l' y = l' := by
        cases gk with
        | zero => rfl
        | succ k => unfold upE; rw [if_pos (Or.inl (by rw [← EI.out]; exact hy))]
      have HR := Aside0.mk hR
      clear hR hy ei
      go_wp2
      exact bodyPost_end (results_none rfl _ _ _) rfl ⟨rfl, by rw [← HY.out.2.2.2, HR.out]; exact HM.out, HF.out⟩
    · have d1 : decide ((i : Int) = (y : Int)) = false := decide_eq_false (by omega)
      have d2 : ((i : Int) == (y : Int)) = false := beq_eq_false_iff_ne.2 (by omega)
      obtain ⟨k1, rfl⟩ : ∃ k1, gk = k1 + 1 := ⟨gk - 1, by have := HY.out; omega⟩
      obtain ⟨bl, ebl⟩ : ∃ x, x = lessE (l'.getD y d0) (l'.getD i d0) := ⟨_, rfl⟩
      have hu : upE (k1 + 1) l' y = if bl = false then l' else upE k1 (swE l' i y) i := by
        have : upE (k1 + 1) l' y = if (y - 1) / 2 = y ∨ lessE (l'.getD y d0) (l'.getD ((y - 1) / 2) d0) = false then l' else upE k1 (swE l' ((y - 1) / 2) y) ((y - 1) / 2) := rfl
        rw [this, ← ei, ← ebl]
        by_cases hb : bl = false
        · rw [if_pos hb, if_pos (Or.inr hb)]
        · rw [if_neg hb, if_neg (fun h => h.elim hy hb)]
      have HU := Aside0.mk hu
      have HB := Aside0.mk ebl
      have HI := Aside0.mk hy
      clear hu ebl hy ei
      have h1 := m_less c0
      go_upto_if 17 with (first | (go_at_call 36; (with_reducible refine (less_w HM.out y i (by have := HY.out; omega) (by have := HY.out; have := EI.out; omega)).mono ?_); rintro e w2 ⟨rfl, hb⟩; rw [← HB.out]; have HM2 := Aside0.mk (HM.out.below hb); have HF2 := Aside0.mk (HF.out.trans (Fr.of hb (HS.out _ HF.out))); clear hb))
      clear HM HF h1 c0
      have c0 := HG.out _ HF2.out
      cases bl
      · go_wp2
        exact bodyPost_end (results_none rfl _ _ _) rfl ⟨rfl, by rw [← HY.out.2.2.2, HU.out]; exact HM2.out, HF2.out⟩
      · have h2 := m_swap c0
        go_wp2_with (first | (go_at_call 37; (with_reducible refine (swap_w HM2.out i y (by have := HY.out; have := EI.out; omega) (by have := HY.out; omega)).mono ?_); rintro e w3 ⟨rfl, hM3, hF3⟩; have HM3 := Aside0.mk hM3; have HF3 := Aside0.mk (HF2.out.trans hF3); clear hM3 hF3))
        go_roundg k1
        case measure => omega
        case rel => exact ⟨i, swE l' i y, rfl, ⟨by have := HY.out; have := EI.out; have := HI.out; omega, by have := HY.out; have := EI.out; omega, by rw [swE_len]; exact HY.out.2.2.1, by rw [← HY.out.2.2.2, HU.out]; rfl⟩, HM3, HF3⟩

end Go.Proofs.Ytjmfhlapjghipaa.PAll
