/- The Go functions that the laws reach, as Lean functions, and that each call comes to what its function says. Written by a program of this session (a turned copy of the kit's print). No condition beyond those that each theorem states. -/
import Derived.Test.YtpicmnkkkgedeaaDoorPAllx0
namespace Go.Proofs.YtpicmnkkkgedeaaDoor.PAll
open Go.RowKit Go.Proofs.YtpicmnkkkgedeaaDoorW.PrintWords Go.Proofs.YtpicmnkkkgedeaaDoorW.PrintLast Go.Proofs.YtpicmnkkkgedeaaDoorW.PrintMore
attribute [local go_sem] max2_int min2_int max_two min_two max_three min_three max_four min_four   -- for this text's walks alone
set_option linter.unusedVariables false
set_option linter.unusedSimpArgs false

/-! ### ring_cell_minus: function 41 -/
def ring_cell_minus.f (a0 : Int) (a1 : Int) : Option (Int) := some ((a0 - a1) % 4294967296)
set_option maxHeartbeats 8000000 in
set_option maxRecDepth 100000 in
theorem ring_cell_minus.calls (a0 : Int) (a1 : Int) (r : Int) (w : World) (h : ring_cell_minus.f a0 a1 = some r) :
    Calls Tryd.prog 41 #[.int .u32 a0, .int .u32 a1] w fun e w' => e = .returned (.int .u32 r) ∧ Drawn0 w w' := by
  have H : (some ((a0 - a1) % 4294967296)) = some r := h
  clear h
  obtain rfl := Option.some.inj H
  go_enter Tryd.func41, Tryd.ntmps41
  go_wp2
  go_ret
  exact ⟨by first | rfl | (simp; done) | (simp [*]; done), by repeat (first | exact Drawn0.refl _ | apply Drawn0.step)⟩

/-! ### ring_cell_plus: function 42 -/
def ring_cell_plus.f (a0 : Int) (a1 : Int) : Option (Int) := some ((a0 + a1) % 4294967296)
set_option maxHeartbeats 8000000 in
set_option maxRecDepth 100000 in
theorem ring_cell_plus.calls (a0 : Int) (a1 : Int) (r : Int) (w : World) (h : ring_cell_plus.f a0 a1 = some r) :
    Calls Tryd.prog 42 #[.int .u32 a0, .int .u32 a1] w fun e w' => e = .returned (.int .u32 r) ∧ Drawn0 w w' := by
  have H : (some ((a0 + a1) % 4294967296)) = some r := h
  clear h
  obtain rfl := Option.some.inj H
  go_enter Tryd.func42, Tryd.ntmps42
  go_wp2
  go_ret
  exact ⟨by first | rfl | (simp; done) | (simp [*]; done), by repeat (first | exact Drawn0.refl _ | apply Drawn0.step)⟩

/-! ### ideal_Turn_1: function 29 -/
def ideal_Turn_1.f (a0 : Int) : Option (Bool) := some (a0 != 0)
set_option maxHeartbeats 8000000 in
set_option maxRecDepth 100000 in
theorem ideal_Turn_1.calls (a0 : Int) (r : Bool) (w : World) (h : ideal_Turn_1.f a0 = some r) :
    Calls Tryd.prog 29 #[.int .u32 a0] w fun e w' => e = .returned (.bool r) ∧ Drawn0 w w' := by
  have H : (some (a0 != 0)) = some r := h
  clear h
  obtain rfl := Option.some.inj H
  go_enter Tryd.func29, Tryd.ntmps29
  go_wp2
  go_ret
  exact ⟨by first | rfl | (simp; done) | (simp [*]; done), by repeat (first | exact Drawn0.refl _ | apply Drawn0.step)⟩

-- NOT PRINTED: function 46 (slices_IndexFunc_uint32_uint32_46)

-- NOT PRINTED: function 33 (slices_ContainsFunc_uint32_uint32_33)

/-! ### boxes and rows of a function's own, all apart, and the rows of numbers that they lead to -/
def rdV (xs : List (List Int)) (i : Int) : List Int := xs.getD i.toNat ([] : List Int)
theorem at_V {w : World} {A : Option Addr} {n : Nat} {xs : List (List Int)} (h : Kd.C (Kd.slice 37 (Kd.int .u32)) w A n xs) (i : Int) (h0 : 0 ≤ i) (h1 : i < n) : ∃ ad A0 c0, A = some ad ∧ w.cell? (ad.add i.toNat) = some (.slice A0 (rdV xs i).length c0) ∧ (rdV xs i).length ≤ c0 ∧ (Kd.int .u32).C w A0 (rdV xs i).length (rdV xs i) := by
  obtain ⟨ad, c, e, _, hK, hc0⟩ := Kd.C_get h ([] : List Int) i h0 h1
  have hc : ∀ j u, c[j]? = some u → w.cell? (ad.add (i.toNat * 1 + j)) = some u := hc0
  obtain ⟨A0, c0, rfl, l0, g0⟩ := hK
  exact ⟨ad, A0, c0, e, by have hq := hc 0 _ rfl; rwa [Nat.mul_one, Nat.add_zero] at hq, l0, g0⟩
def rdM (xs : List (List (List Int))) (i : Int) : List (List Int) := xs.getD i.toNat ([] : List (List Int))
theorem at_M {w : World} {A : Option Addr} {n : Nat} {xs : List (List (List Int))} (h : Kd.C (Kd.slice 35 (Kd.slice 37 (Kd.int .u32))) w A n xs) (i : Int) (h0 : 0 ≤ i) (h1 : i < n) : ∃ ad A0 c0, A = some ad ∧ w.cell? (ad.add i.toNat) = some (.slice A0 (rdM xs i).length c0) ∧ (rdM xs i).length ≤ c0 ∧ (Kd.slice 37 (Kd.int .u32)).C w A0 (rdM xs i).length (rdM xs i) := by
  obtain ⟨ad, c, e, _, hK, hc0⟩ := Kd.C_get h ([] : List (List Int)) i h0 h1
  have hc : ∀ j u, c[j]? = some u → w.cell? (ad.add (i.toNat * 1 + j)) = some u := hc0
  obtain ⟨A0, c0, rfl, l0, g0⟩ := hK
  exact ⟨ad, A0, c0, e, by have hq := hc 0 _ rfl; rwa [Nat.mul_one, Nat.add_zero] at hq, l0, g0⟩
/-- A row by its cells, of elements one cell wide. -/
theorem R_mk {α : Type} {d : Kd α} {w : World} {base e : Nat} {v : Value} {cs : List Value} {xs : List α} {ok : Nat → Prop} (h : w.ownsRow base e 1 v cs.length cs) (hsz : d.sz = 1) (hl : cs.length = xs.length)
    (hM : ∀ (j : Nat) (u : Value) (x : α), cs[j]? = some u → xs[j]? = some x → d.M w base (fun k => ok k ∧ some k ≠ v.ownBlock) x [u]) (hok : ∀ k, v.ownBlock = some k → ok k) : d.R e w base ok v xs := by
  refine ⟨hok, cs, by rw [hsz, ← hl]; exact h, by rw [hsz, ← hl, Nat.mul_one], fun j p hj => ?_⟩
  have hlt : j < cs.length := by rw [hl]; exact (List.getElem?_eq_some_iff.1 hj).1
  have := hM j cs[j] p (List.getElem?_eq_getElem hlt) hj
  rw [hsz, Nat.mul_one, List.drop_eq_getElem_cons hlt, List.take_succ_cons, List.take_zero]
  exact this
abbrev Bx := Nat × Nat × Array Value
abbrev Rw := Nat × Value × List Value
/-- The boxes bs (address, type, what they hold) and the rows rs (type of elements, value, what they hold), all of the function's own and apart; what Lf tells of are rows of numbers of its own; nothing else is written. -/
structure Hq (w0 : World) (bs : List Bx) (rs : List Rw) (Lf : Value → List Int → Prop) (w : World) : Prop where
  all : ∀ (i : Nat) (b : Bx), bs[i]? = some b → w.heap[b.1]? = some (.cells b.2.2 b.2.1 (0, 0)) ∧ w0.heap.size ≤ b.1 ∧ 37 ≠ b.2.1
  nd : ∀ (i j : Nat) (b c : Bx), bs[i]? = some b → bs[j]? = some c → i ≠ j → b.1 ≠ c.1
  rows : ∀ (i : Nat) (r : Rw), rs[i]? = some r → w.ownsRow w0.heap.size r.1 1 r.2.1 r.2.2.length r.2.2 ∧ 37 ≠ r.1
  rnd : ∀ (i j : Nat) (r s : Rw) (k : Nat), rs[i]? = some r → rs[j]? = some s → i ≠ j → r.2.1.ownBlock = some k → s.2.1.ownBlock ≠ some k
  rb : ∀ (i j : Nat) (r : Rw) (b : Bx), rs[i]? = some r → bs[j]? = some b → r.2.1.ownBlock ≠ some b.1
  leaf : ∀ (v : Value) (x : List Int), Lf v x → (Kd.int .u32).R 37 w w0.heap.size (fun _ => True) v x
  hb : Below w0.heap.size w0 w
def Lf0 : Value → List Int → Prop := fun v x => v = .slice none 0 0 ∧ x = []
def LfA (Lf : Value → List Int → Prop) (v : Value) (x : List Int) : Value → List Int → Prop := fun v' x' => Lf v' x' ∨ v' = v ∧ x' = x
/-- Values and what they come to, one by one. -/
def RV (Lf : Value → List Int → Prop) (vs : List Value) (xs : List (List Int)) : Prop := vs.length = xs.length ∧ ∀ (j : Nat) (v : Value) (x : List Int), vs[j]? = some v → xs[j]? = some x → Lf v x
theorem RV.mono {Lf Lf' : Value → List Int → Prop} {vs : List Value} {xs : List (List Int)} (h : RV Lf vs xs) (hl : ∀ v x, Lf v x → Lf' v x) : RV Lf' vs xs := ⟨h.1, fun j v x h1 h2 => hl v x (h.2 j v x h1 h2)⟩
theorem RV.add {Lf : Value → List Int → Prop} {vs : List Value} {xs : List (List Int)} (h : RV Lf vs xs) (v : Value) (x : List Int) : RV (LfA Lf v x) vs xs := h.mono fun _ _ h => Or.inl h
theorem RV.nil (Lf : Value → List Int → Prop) : RV Lf [] [] := ⟨rfl, fun j v x h => by simp at h⟩
theorem RV.snoc {Lf : Value → List Int → Prop} {vs : List Value} {xs : List (List Int)} (h : RV Lf vs xs) {v : Value} {x : List Int} (hv : Lf v x) : RV Lf (vs ++ [v]) (xs ++ [x]) := by
  refine ⟨by simp [h.1], fun j u y h1 h2 => ?_⟩
  rw [List.getElem?_append] at h1 h2
  by_cases hj : j < vs.length
  · rw [if_pos hj] at h1
    rw [if_pos (by rw [← h.1]; exact hj)] at h2
    exact h.2 j u y h1 h2
  · rw [if_neg hj, List.getElem?_singleton] at h1
    rw [if_neg (by rw [← h.1]; exact hj), List.getElem?_singleton] at h2
    split at h1
    · split at h2
      · obtain rfl := Option.some.inj h1
        obtain rfl := Option.some.inj h2
        exact hv
      · cases h2
    · cases h1
theorem RV.set {Lf : Value → List Int → Prop} {vs : List Value} {xs : List (List Int)} (h : RV Lf vs xs) (i : Nat) {v : Value} {x : List Int} (hv : Lf v x) : RV Lf (vs.set i v) (xs.set i x) := by
  refine ⟨by simp [h.1], fun j u y h1 h2 => ?_⟩
  rw [List.getElem?_set] at h1 h2
  by_cases e : i = j
  · subst e
    rw [if_pos rfl] at h1 h2
    split at h1
    · split at h2
      · obtain rfl := Option.some.inj h1
        obtain rfl := Option.some.inj h2
        exact hv
      · cases h2
    · cases h1
  · rw [if_neg e] at h1 h2
    exact h.2 j u y h1 h2
theorem RV.reps {Lf : Value → List Int → Prop} (n : Nat) (h : Lf (.slice none 0 0) []) : RV Lf (List.replicate n (.slice none 0 0)) (List.replicate n []) := by
  refine ⟨by simp, fun j u y h1 h2 => ?_⟩
  rw [List.getElem?_replicate] at h1 h2
  split at h1
  · rw [if_pos (by assumption)] at h2
    obtain rfl := Option.some.inj h1
    obtain rfl := Option.some.inj h2
    exact h
  · cases h1
theorem Hq.none_ (w : World) : Hq w [] [] Lf0 w :=
  ⟨fun i b h => by simp at h, fun i j b c h => by simp at h, fun i r h => by simp at h, fun i j r s k h => by simp at h, fun i j r b h => by simp at h, fun v x h => by obtain ⟨rfl, rfl⟩ := h; exact Kd.R_nil _ _ _ _ _, Below.refl _ _⟩
section
variable {w0 w w' : World} {bs : List Bx} {rs : List Rw} {Lf : Value → List Int → Prop}
theorem Hq.below (h : Hq w0 bs rs Lf w) (hb : Below w.heap.size w w') : Hq w0 bs rs Lf w' :=
  ⟨fun i b hi => ⟨blk_below (h.all i b hi).1 hb, (h.all i b hi).2⟩, h.nd, fun i r hi => ⟨pw_own_below (h.rows i r hi).1 hb, (h.rows i r hi).2⟩, h.rnd, h.rb, fun v x hx => Kd.R_below (h.leaf v x hx) hb, below_step h.hb hb⟩
theorem Hq.drew (h : Hq w0 bs rs Lf w) : Hq w0 bs rs Lf w.drew := h.below (below_drew1 (Below.refl _ _))
theorem Hq.get (h : Hq w0 bs rs Lf w) (i : Nat) {g t : Nat} {cs : Array Value} (hi : bs[i]? = some (g, t, cs)) : w.heap[g]? = some (.cells cs t (0, 0)) := (h.all i _ hi).1
theorem Hq.lo (h : Hq w0 bs rs Lf w) (i : Nat) {g t : Nat} {cs : Array Value} (hi : bs[i]? = some (g, t, cs)) : w0.heap.size ≤ g := (h.all i _ hi).2.1
theorem Hq.rowlt (h : Hq w0 bs rs Lf w) (i : Nat) {r : Rw} (hi : rs[i]? = some r) (k : Nat) (hk : r.2.1.ownBlock = some k) : k < w.heap.size := own_lt (h.rows i r hi).1 k hk
theorem get_snoc {α : Type} {l : List α} {a x : α} {i : Nat} (h : (l ++ [a])[i]? = some x) : l[i]? = some x ∨ i = l.length ∧ x = a := by
  rw [List.getElem?_append] at h
  split at h
  · exact Or.inl h
  · rw [List.getElem?_singleton] at h
    split at h
    · exact Or.inr ⟨by omega, (Option.some.inj h).symm⟩
    · cases h
theorem get_lt {α : Type} {l : List α} {x : α} {i : Nat} (h : l[i]? = some x) : i < l.length := (List.getElem?_eq_some_iff.1 h).1
/-- A new box. -/
theorem Hq.box (h : Hq w0 bs rs Lf w) {g t : Nat} {cs : Array Value} (hl : w.heap.size ≤ g) (hbox : w'.heap[g]? = some (.cells cs t (0, 0))) (hb : Below w.heap.size w w') (ht : 37 ≠ t) : Hq w0 (bs ++ [(g, t, cs)]) rs Lf w' := by
  have hB := h.below hb
  have hs := below_size h.hb
  have lt : ∀ (i : Nat) (b : Bx), bs[i]? = some b → b.1 < w.heap.size := fun i b hi => blk_lt (h.all i b hi).1
  refine ⟨fun i b hi => ?_, fun i j b c hi hj hne => ?_, hB.rows, hB.rnd, fun i j r b hi hj => ?_, hB.leaf, hB.hb⟩
  · rcases get_snoc hi with hi | ⟨_, rfl⟩
    · exact hB.all i b hi
    · exact ⟨hbox, Nat.le_trans hs hl, ht⟩
  · rcases get_snoc hi with hi | ⟨ei, rfl⟩
    · rcases get_snoc hj with hj | ⟨_, rfl⟩
      · exact h.nd i j b c hi hj hne
      · have := lt i b hi
        show b.1 ≠ g
        omega
    · rcases get_snoc hj with hj | ⟨ej, rfl⟩
      · have := lt j c hj
        show g ≠ c.1
        omega
      · omega
  · rcases get_snoc hj with hj | ⟨_, rfl⟩
    · exact h.rb i j r b hi hj
    · intro e
      have := h.rowlt i hi g e
      omega
/-- A store into a box. -/
theorem leaf_far {v : Value} {x : List Int} (hw : (Kd.int .u32).R 37 w w0.heap.size (fun _ => True) v x) {g t : Nat} {cs : Array Value} (hg : w.heap[g]? = some (.cells cs t (0, 0))) (ht : 37 ≠ t) (j : Nat) (u : Value) : (Kd.int .u32).R 37 (w.setCell ⟨g, j, none⟩ u) w0.heap.size (fun _ => True) v x :=
  Kd.R_set hw hg (fun q hq => by rw [List.mem_singleton.1 (show q ∈ [37] from hq)]; exact ht) j u
theorem Hq.put (h : Hq w0 bs rs Lf w) (i : Nat) {g t : Nat} {cs : Array Value} (hi : bs[i]? = some (g, t, cs)) (j : Nat) (u : Value) {c' : Array Value} (e : cs.setIfInBounds j u = c') : Hq w0 (bs.set i (g, t, c')) rs Lf (w.setCell ⟨g, j, none⟩ u) := by
  have hlt := get_lt hi
  have same : ∀ (k : Nat) (b : Bx), (bs.set i (g, t, c'))[k]? = some b → ∃ b', bs[k]? = some b' ∧ b'.1 = b.1 := fun k b hk => by
    by_cases e2 : i = k
    · subst e2
      rw [List.getElem?_set_self hlt] at hk
      obtain rfl := Option.some.inj hk
      exact ⟨_, hi, rfl⟩
    · rw [List.getElem?_set_ne e2] at hk
      exact ⟨b, hk, rfl⟩
  refine ⟨fun k b hk => ?_, fun a b c d ha hb hne => ?_, fun k r hk => ⟨own_setCell (h.rows k r hk).1 (p := ⟨g, j, none⟩) (fun e2 => h.rb k i r _ hk hi e2.symm) u, (h.rows k r hk).2⟩, h.rnd, fun a b r c hr hc => ?_, fun v x hx => leaf_far (h.leaf v x hx) (h.get i hi) (h.all i _ hi).2.2 j u, below_set h.hb (h.lo i hi)⟩
  · by_cases e2 : i = k
    · subst e2
      rw [List.getElem?_set_self hlt] at hk
      obtain rfl := Option.some.inj hk
      exact ⟨blk_put (h.get i hi) j u e, (h.all i _ hi).2⟩
    · rw [List.getElem?_set_ne e2] at hk
      exact ⟨blk_far (h.all k b hk).1 (h.nd k i b _ hk hi (fun x => e2 x.symm)) u, (h.all k b hk).2⟩
  · obtain ⟨c1, hc1, ec⟩ := same a c ha
    obtain ⟨d1, hd1, ed⟩ := same b d hb
    rw [← ec, ← ed]
    exact h.nd a b c1 d1 hc1 hd1 hne
  · obtain ⟨c1, hc1, ec⟩ := same b c hc
    rw [← ec]
    exact h.rb a b r c1 hr hc1
/-- Only some of the boxes; the rows in another order, or only some. -/
theorem Hq.less {cs : List Bx} (h : Hq w0 (bs ++ cs) rs Lf w) : Hq w0 bs rs Lf w :=
  have up : ∀ (i : Nat) (b : Bx), bs[i]? = some b → (bs ++ cs)[i]? = some b := fun i b hi => by rw [List.getElem?_append_left (get_lt hi)]; exact hi
  ⟨fun i b hi => h.all i b (up i b hi), fun i j b c hi hj hne => h.nd i j b c (up i b hi) (up j c hj) hne, h.rows, h.rnd, fun i j r b hi hj => h.rb i j r b hi (up j b hj), h.leaf, h.hb⟩
theorem Hq.pick {rs' : List Rw} (h : Hq w0 bs rs Lf w) (f : Nat → Nat) (hf : ∀ i j, i < rs'.length → j < rs'.length → f i = f j → i = j) (hr : ∀ (i : Nat) (r : Rw), rs'[i]? = some r → rs[f i]? = some r) : Hq w0 bs rs' Lf w :=
  ⟨h.all, h.nd, fun i r hi => h.rows (f i) r (hr i r hi), fun i j r s k hi hj hne => h.rnd (f i) (f j) r s k (hr i r hi) (hr j s hj) (fun e => hne (hf i j (get_lt hi) (get_lt hj) e)), fun i j r b hi hj => h.rb (f i) j r b (hr i r hi) hj, h.leaf, h.hb⟩
theorem Hq.tail {r : Rw} (h : Hq w0 bs (r :: rs) Lf w) : Hq w0 bs rs Lf w := h.pick (· + 1) (fun i j _ _ e => by simpa using e) (fun i r hi => by simpa using hi)
theorem Hq.lfm {Lf' : Value → List Int → Prop} (h : Hq w0 bs rs Lf w) (hl : ∀ v x, Lf' v x → Lf v x) : Hq w0 bs rs Lf' w := ⟨h.all, h.nd, h.rows, h.rnd, h.rb, fun v x hx => h.leaf v x (hl v x hx), h.hb⟩
/-- A row of numbers that a call has made. -/
theorem Hq.made (h : Hq w0 bs rs Lf w) (hb : Below w.heap.size w w') {v : Value} {x : List Int} (hR : (Kd.int .u32).R 37 w' w.heap.size (fun _ => True) v x) : Hq w0 bs rs (LfA Lf v x) w' := by
  have hB := h.below hb
  refine ⟨hB.all, hB.nd, hB.rows, hB.rnd, hB.rb, fun u y hu => ?_, hB.hb⟩
  rcases hu with hu | ⟨rfl, rfl⟩
  · exact hB.leaf u y hu
  · exact Kd.R_lower hR (below_size h.hb)
theorem Hq.leafed (h : Hq w0 bs rs Lf w) {v : Value} {x : List Int} (hR : (Kd.int .u32).R 37 w w0.heap.size (fun _ => True) v x) : Hq w0 bs rs (LfA Lf v x) w :=
  ⟨h.all, h.nd, h.rows, h.rnd, h.rb, fun u y hu => hu.elim (h.leaf u y) (fun ⟨e1, e2⟩ => by subst e1; subst e2; exact hR), h.hb⟩
/-- One more row, ahead: an empty one; a new one. -/
theorem get_cons {α : Type} {l : List α} {a x : α} {i : Nat} (h : (a :: l)[i]? = some x) : i = 0 ∧ x = a ∨ ∃ j, i = j + 1 ∧ l[j]? = some x := by
  cases i with
  | zero => exact Or.inl ⟨rfl, (Option.some.inj (by simpa using h)).symm⟩
  | succ j => exact Or.inr ⟨j, rfl, by simpa using h⟩
theorem Hq.row (h : Hq w0 bs rs Lf w) {r : Rw} (hr : w.ownsRow w0.heap.size r.1 1 r.2.1 r.2.2.length r.2.2) (ht : 37 ≠ r.1) (h1 : ∀ (j : Nat) (s : Rw) (k : Nat), rs[j]? = some s → r.2.1.ownBlock = some k → s.2.1.ownBlock ≠ some k) (h2 : ∀ (j : Nat) (b : Bx), bs[j]? = some b → r.2.1.ownBlock ≠ some b.1) : Hq w0 bs (r :: rs) Lf w := by
  refine ⟨h.all, h.nd, fun i s hi => ?_, fun i j s t k hi hj hne hk => ?_, fun i j s b hi hj => ?_, h.leaf, h.hb⟩
  · rcases get_cons hi with ⟨_, rfl⟩ | ⟨m, _, hm⟩
    · exact ⟨hr, ht⟩
    · exact h.rows m s hm
  · rcases get_cons hi with ⟨e1, rfl⟩ | ⟨m, e1, hm⟩
    · rcases get_cons hj with ⟨e2, _⟩ | ⟨n, _, hn⟩
      · omega
      · exact h1 n t k hn hk
    · rcases get_cons hj with ⟨_, rfl⟩ | ⟨n, e2, hn⟩
      · exact fun e => h1 m s k hm e hk
      · exact h.rnd m n s t k hm hn (by omega) hk
  · rcases get_cons hi with ⟨_, rfl⟩ | ⟨m, _, hm⟩
    · exact h2 j b hj
    · exact h.rb m j s b hm hj
theorem Hq.nil (h : Hq w0 bs rs Lf w) (e : Nat) (ht : 37 ≠ e) : Hq w0 bs ((e, .slice none 0 0, []) :: rs) Lf w :=
  h.row (own_nil _ _ _ _) ht (fun j s k _ hk => by simp [Value.ownBlock] at hk) (fun j b _ hk => by simp [Value.ownBlock] at hk)
theorem Hq.rnew (h : Hq w0 bs rs Lf w) (hb : Below w.heap.size w w') {e g n : Nat} {cs : List Value} (hl : w.heap.size ≤ g) (hbox : w'.heap[g]? = some (.cells cs.toArray e (0, 0))) (ht : 37 ≠ e) (hn : cs.length = n) (hm : n ≤ 1000000) : Hq w0 bs ((e, .slice (some ⟨g, 0, none⟩) n n, cs) :: rs) Lf w' := by
  have hB := h.below hb
  have hs := below_size h.hb
  refine hB.row ⟨by simp, Or.inr ⟨g, n, _, by rw [hn], Nat.le_trans hs hl, hbox, by rw [hn]; exact Nat.le_refl _, by simp only [maxLen]; omega, by simp [hn], by simp only [hn, Nat.mul_one]; exact List.take_of_length_le (by simp [hn])⟩⟩ ht (fun j s k hj hk e2 => ?_) (fun j b hj hk => ?_)
  · obtain rfl := Option.some.inj hk
    have := h.rowlt j hj g e2
    omega
  · obtain e3 : g = b.1 := Option.some.inj hk
    have := blk_lt (h.all j b hj).1
    omega
/-- What stands in a row; a store into it. -/
theorem Hq.cell (h : Hq w0 bs rs Lf w) (i : Nat) {e g n c : Nat} {cs : List Value} (hi : rs[i]? = some (e, .slice (some ⟨g, 0, none⟩) n c, cs)) (j : Nat) {u : Value} (hj : cs[j]? = some u) : w.cell? ⟨g, j, none⟩ = some u ∧ w.frozen? ⟨g, j, none⟩ = false := by
  obtain ⟨⟨h1, h2⟩, _⟩ := h.rows i _ hi
  rcases h2 with ⟨h2, _⟩ | ⟨g', cap, cur, e2, _, hh, hn, _, hsz, ht⟩
  · simp at h2
  · simp only [Value.slice.injEq, Option.some.injEq, Addr.mk.injEq] at e2
    obtain ⟨⟨rfl, _, _⟩, _, _⟩ := e2
    refine ⟨(blk_cell hh j).trans ?_, blk_frozen hh j⟩
    simp only [Nat.mul_one] at ht
    have hlt := get_lt hj
    rw [← ht, List.getElem?_take, if_pos hlt] at hj
    rw [← hj, Array.getElem?_toList]
theorem Hq.rput (h : Hq w0 bs rs Lf w) (i : Nat) {e g n c : Nat} {cs : List Value} (hi : rs[i]? = some (e, .slice (some ⟨g, 0, none⟩) n c, cs)) (j : Nat) (hj : j < cs.length) (u : Value) : Hq w0 bs (rs.set i (e, .slice (some ⟨g, 0, none⟩) n c, cs.set j u)) Lf (w.setCell ⟨g, j, none⟩ u) := by
  have hlt := get_lt hi
  obtain ⟨⟨h1, h2⟩, ht⟩ := h.rows i _ hi
  have hblk : (Value.slice (some ⟨g, 0, none⟩) n c).ownBlock = some g := rfl
  rcases h2 with ⟨h2, _⟩ | ⟨g', cap, cur, e2, hlo, hh, hn, hcap, hsz, htk⟩
  · simp at h2
  have e2' := e2
  simp only [Value.slice.injEq, Option.some.injEq, Addr.mk.injEq] at e2
  obtain ⟨⟨eg, _, _⟩, en, ec⟩ := e2
  have same : ∀ (k : Nat) (r : Rw), (rs.set i (e, .slice (some ⟨g, 0, none⟩) n c, cs.set j u))[k]? = some r → ∃ r', rs[k]? = some r' ∧ r'.2.1 = r.2.1 := fun k r hk => by
    by_cases e3 : i = k
    · subst e3
      rw [List.getElem?_set_self hlt] at hk
      obtain rfl := Option.some.inj hk
      exact ⟨_, hi, rfl⟩
    · rw [List.getElem?_set_ne e3] at hk
      exact ⟨r, hk, rfl⟩
  refine ⟨fun k b hk => ⟨blk_far (h.all k b hk).1 (fun e3 => h.rb i k _ b hi hk (by rw [e3]; rfl)) u, (h.all k b hk).2⟩, h.nd, fun k r hk => ?_, fun a b r s k ha hb hne hk => ?_, fun a b r c2 hr hc => ?_, fun v x hx => ?_, below_set h.hb (by rw [eg]; exact hlo)⟩
  · by_cases e3 : i = k
    · subst e3
      rw [List.getElem?_set_self hlt] at hk
      obtain rfl := Option.some.inj hk
      refine ⟨⟨by simp, Or.inr ⟨g, cap, cur.setIfInBounds j u, by simp only [List.length_set]; rw [en, ec], by rw [eg]; exact hlo, by rw [eg]; exact blk_set hh j u, by simpa using hn, hcap, by simpa using hsz, ?_⟩⟩, ht⟩
      simp only [Nat.mul_one] at htk ⊢
      rw [List.length_set, Array.toList_setIfInBounds, List.take_set, htk]
    · rw [List.getElem?_set_ne e3] at hk
      exact ⟨own_setCell (h.rows k r hk).1 (p := ⟨g, j, none⟩) (fun e4 => h.rnd i k _ r g hi hk e3 rfl e4.symm) u, (h.rows k r hk).2⟩
  · obtain ⟨r1, hr1, er⟩ := same a r ha
    obtain ⟨s1, hs1, es⟩ := same b s hb
    rw [← er] at hk
    rw [← es]
    exact h.rnd a b r1 s1 k hr1 hs1 hne hk
  · obtain ⟨r1, hr1, er⟩ := same a r hr
    rw [← er]
    exact h.rb a b r1 c2 hr1 hc
  · have hh' : w.heap[g]? = some (.cells cur e (0, 0)) := by rw [eg]; exact hh
    exact leaf_far (h.leaf v x hx) hh' ht j u
/-- The first row has grown. -/
theorem Hq.grow {e : Nat} {v v1 : Value} {cs c1 : List Value} (h : Hq w0 bs ((e, v, cs) :: rs) Lf w) (hown : w'.ownsRow w0.heap.size e 1 v1 c1.length c1) (hg : w.grownBy w' v.ownBlock) (hat : v1.ownBlock = v.ownBlock ∨ ∃ b, v1.ownBlock = some b ∧ w.heap.size ≤ b) (hb : Below w0.heap.size w0 w') : Hq w0 bs ((e, v1, c1) :: rs) Lf w' := by
  have h0 : ((e, v, cs) :: rs)[0]? = some (e, v, cs) := rfl
  have up : ∀ (i : Nat) (r : Rw), rs[i]? = some r → ((e, v, cs) :: rs)[i + 1]? = some r := fun i r hi => by simpa using hi
  obtain ⟨hr0, ht⟩ := h.rows 0 _ h0
  have ht0 : 37 ≠ e := ht
  have hcells : ∀ k, v.ownBlock = some k → ∃ cells, w.heap[k]? = some (.cells cells e (0, 0)) := fun k hk => own_typed hr0 k hk
  have hT : Hq w0 bs rs Lf w' := by
    refine ⟨fun i b hi => ⟨blk_grown (h.all i b hi).1 hg (fun e2 => h.rb 0 i _ b h0 hi e2.symm), (h.all i b hi).2⟩, h.nd, fun i r hi => ⟨own_move (h.rows (i + 1) r (up i r hi)).1 (fun k hk => hg.block k (h.rowlt (i + 1) (up i r hi) k hk) (fun e2 => h.rnd 0 (i + 1) _ r k h0 (up i r hi) (by omega) e2.symm hk)), (h.rows (i + 1) r (up i r hi)).2⟩, fun i j r s k hi hj hne => h.rnd (i + 1) (j + 1) r s k (up i r hi) (up j s hj) (by omega), fun i j r b hi hj => h.rb (i + 1) j r b (up i r hi) hj, fun u x hx => ?_, hb⟩
    refine Kd.R_step (Kd.R_bound (h.leaf u x hx)) (fun k hk _ => hg.block k hk.2.2.1 (fun e2 => ?_)) |> (Kd.R_mono · (fun _ _ => trivial))
    obtain ⟨cells, hc⟩ := hcells k e2.symm
    obtain ⟨_, _, _, q, hq, cells', hc'⟩ := hk
    rw [List.mem_singleton.1 (show q ∈ [37] from hq)] at hc'
    rw [hc] at hc'
    injection hc' with hc'
    injection hc' with _ hc'
    exact ht0 hc'.symm
  refine hT.row hown ht0 (fun j s k hj hk e2 => ?_) (fun j b hj hk => ?_)
  · rcases hat with hat | ⟨b, hb2, hle⟩
    · exact h.rnd 0 (j + 1) _ s k h0 (up j s hj) (by omega) (by rw [← hat]; exact hk) e2
    · have hk' : v1.ownBlock = some k := hk
      rw [hb2] at hk'
      obtain rfl := Option.some.inj hk'
      have := h.rowlt (j + 1) (up j s hj) b e2
      omega
  · rcases hat with hat | ⟨c, hb2, hle⟩
    · exact h.rb 0 j _ b h0 hj (by show v.ownBlock = _; rw [← hat]; exact hk)
    · have hk' : v1.ownBlock = some b.1 := hk
      rw [hb2] at hk'
      have := blk_lt (h.all j b hj).1
      have := Option.some.inj hk'
      omega
/-- The rows as the kinds tell them. -/
theorem Hq.r2 (h : Hq w0 bs rs Lf w) (i : Nat) {v : Value} {cs : List Value} {xs : List (List Int)} (hi : rs[i]? = some (35, v, cs)) (hx : RV Lf cs xs) : (Kd.slice 37 (Kd.int .u32)).R 35 w w0.heap.size (fun k => v.ownBlock = some k ∨ ∃ cells, w.heap[k]? = some (.cells cells 37 (0, 0))) v xs := by
  have hr := (h.rows i _ hi).1
  refine R_mk hr rfl hx.1 (fun j u x hj hxj => ?_) (fun k hk => Or.inl hk)
  refine ⟨u, rfl, Kd.R_mono (Kd.R_bound (h.leaf u x (hx.2 j u x hj hxj))) (fun k hk => ?_)⟩
  obtain ⟨_, _, _, q, hq, cells, hc⟩ := hk
  rw [List.mem_singleton.1 (show q ∈ [37] from hq)] at hc
  refine ⟨Or.inr ⟨cells, hc⟩, fun e => ?_⟩
  obtain ⟨cells', hc'⟩ := own_typed hr k e.symm
  rw [hc] at hc'
  injection hc' with hc'
  injection hc' with _ hc'
  cases hc'
/-- Middle rows: each a row of rs, or none. -/
def RM (rs : List Rw) (Lf : Value → List Int → Prop) (vs : List Value) (xs : List (List (List Int))) : Prop := vs.length = xs.length ∧ ∀ (j : Nat) (v : Value) (x : List (List Int)), vs[j]? = some v → xs[j]? = some x → v = .slice none 0 0 ∧ x = [] ∨ ∃ (i : Nat) (cs : List Value), rs[i]? = some (35, v, cs) ∧ RV Lf cs x
theorem Hq.r3 (h : Hq w0 bs rs Lf w) (i : Nat) {v : Value} {cs : List Value} {xs : List (List (List Int))} (hi : rs[i]? = some (22, v, cs)) (hx : RM rs Lf cs xs) (ok : Nat → Prop) (h1 : ∀ k, v.ownBlock = some k → ok k) (h2 : ∀ (j : Nat) (u : Value) (c : List Value) (k : Nat), rs[j]? = some (35, u, c) → (∃ m : Nat, cs[m]? = some u) → u.ownBlock = some k → ok k) (h3 : ∀ k cells, w.heap[k]? = some (.cells cells 37 (0, 0)) → ok k) : (Kd.slice 35 (Kd.slice 37 (Kd.int .u32))).R 22 w w0.heap.size ok v xs := by
  have hr := (h.rows i _ hi).1
  refine R_mk hr rfl hx.1 (fun j u x hj hxj => ?_) h1
  rcases hx.2 j u x hj hxj with ⟨rfl, rfl⟩ | ⟨m, c, hm, hc⟩
  · exact ⟨_, rfl, Kd.R_nil _ _ _ _ _⟩
  · refine ⟨u, rfl, Kd.R_mono (h.r2 m hm hc) (fun k hk => ?_)⟩
    rcases hk with hk | ⟨cells, hk⟩
    · refine ⟨h2 m u c k hm ⟨j, hj⟩ hk, fun e => ?_⟩
      obtain ⟨c1, hc1⟩ := own_typed (h.rows m _ hm).1 k hk
      obtain ⟨c2, hc2⟩ := own_typed hr k e.symm
      rw [hc1] at hc2
      injection hc2 with hc2
      injection hc2 with _ hc2
      cases hc2
    · refine ⟨h3 k cells hk, fun e => ?_⟩
      obtain ⟨c2, hc2⟩ := own_typed hr k e.symm
      rw [hk] at hc2
      injection hc2 with hc2
      injection hc2 with _ hc2
      cases hc2
end

/-! ### ideal_even: function 20 -/
/-! ### ideal_even: have all vectors so many numbers? The closure, the library's search with it, and the function -/
theorem even_w64 (m : Nat) (h : m < 9223372036854775808) : wrap64 (m : Int) = (m : Int) := by unfold wrap64; omega
theorem even_lit (A : Option Addr) (c : Nat) (x : List Int) (n : Int) (g : Nat) (w : World) (hm : w.heap[g]? = some (.cells #[.int .i64 n] 3 (0, 0))) :
    Calls Tryd.prog 34 #[.slice A x.length c, .pointer (some ⟨g, 0, none⟩)] w fun e w' => e = .returned (.bool ((x.length : Int) != n)) ∧ Drawn0 w w' := by
  have hc := (blk_cell hm 0).trans (show (#[.int .i64 n] : Array Value)[0]? = some (.int .i64 n) from rfl)
  go_enter Tryd.func34, Tryd.ntmps34
  go_wp2
  repeat (go_quiet (fail); try go_wp2)
  go_ret
  exact ⟨rfl, by repeat (first | exact Drawn0.refl _ | apply Drawn0.step)⟩
def ixEven (n : Int) : List (List Int) → Nat → Int
  | [], _ => -1
  | x :: l, i => if (x.length : Int) ≠ n then i else ixEven n l (i + 1)
theorem ixEven_cons (n : Int) (x : List Int) (l : List (List Int)) (i : Nat) : ixEven n (x :: l) i = if (x.length : Int) ≠ n then (i : Int) else ixEven n l (i + 1) := rfl
theorem ixEven_all (n : Int) : ∀ (l : List (List Int)) (i : Nat), (!decide (ixEven n l i ≥ 0)) = l.all fun x => decide ((x.length : Int) = n)
  | [], i => by simp [ixEven]
  | x :: l, i => by
    unfold ixEven
    rw [List.all_cons]
    by_cases h : (x.length : Int) = n
    · rw [if_neg (by simpa using h), decide_eq_true h, Bool.true_and]; exact ixEven_all n l (i + 1)
    · rw [if_pos h, decide_eq_false h, Bool.false_and, decide_eq_true (show (i : Int) ≥ 0 by omega)]; rfl
set_option maxHeartbeats 4000000 in
theorem even_index (n : Int) (g : Nat) (A0 : Option Addr) (c0 : Nat) (l0 : List (List Int)) (w : World) (hm : w.heap[g]? = some (.cells #[.int .i64 n] 3 (0, 0))) (hr0 : Kd.C (Kd.slice 37 (Kd.int .u32)) w A0 l0.length l0) :
    Calls Tryd.prog 46 #[.slice A0 l0.length c0, .func (.func 34) #[] #[.pointer (some ⟨g, 0, none⟩)]] w fun e w' => e = .returned (.int .i64 (ixEven n l0 0)) ∧ Drawn0 w w' := by
  have HR0 := Aside0.mk hr0
  have HM := Aside0.mk hm
  have HL := Aside0.mk hr0.2.1
  clear hr0 hm
  go_enter Tryd.func46, Tryd.ntmps46
  go_wp2
  go_loopg [8] l0.length (fun kq v8 w' => ∃ (i : Nat), v8 = .int .i64 (i : Int) ∧ Aside0 (i + kq = l0.length) ∧ Aside0 (ixEven n l0 0 = ixEven n (l0.drop i) i) ∧ Drawn0 w w')
  case atStart => exact ⟨0, rfl, ⟨Nat.zero_add _⟩, ⟨rfl⟩, by repeat (first | exact Drawn0.refl _ | apply Drawn0.step)⟩
  case round =>
    obtain ⟨i, rfl, HI, HX, ⟨m1, rfl⟩⟩ := hrel
    have HM1 : Aside0 ((w.drewN m1).heap[g]? = some (.cells #[.int .i64 n] 3 (0, 0))) := ⟨HM.out⟩
    have hi := HI.out
    cases gk with
    | zero =>
      rw [Nat.add_zero] at hi
      subst hi
      have E := HX.out
      rw [List.drop_length] at E
      have E1 := Aside0.mk E
      clear E
      go_wp2
      go_ret
      exact ⟨by rw [E1.out]; rfl, ⟨m1, rfl⟩⟩
    | succ k1 =>
      have hlt : i < l0.length := by omega
      have E := HX.out
      rw [List.drop_eq_getElem_cons hlt] at E
      have p1 : 0 ≤ (i : Int) := by omega
      have q1 : (i : Int) < (l0.length : Int) := by omega
      have d1 : decide ((i : Int) < (l0.length : Int)) = true := decide_eq_true q1
      have eg : rdV l0 (i : Int) = l0[i] := by unfold rdV; simp [List.getD, List.getElem?_eq_getElem hlt]
      obtain ⟨ad1, A1, c1, e1, hx1, hl1, hi1⟩ := at_V HR0.out (i : Int) p1 q1
      cases e1
      rw [eg, Int.toNat_natCast] at hx1
      clear hl1 hi1
      replace p1 := eq_true p1
      replace q1 := eq_true q1
      generalize l0[i] = x at hx1 E
      rw [ixEven_cons] at E
      have EW := Aside0.mk (even_w64 (i + 1) (by have := HL.out; omega))
      by_cases hx : (x.length : Int) = n
      · rw [if_neg (by simpa using hx)] at E
        have E1 := Aside0.mk E
        clear E eg hi hlt
        have hxb : ((x.length : Int) != n) = false := bne_eq_false_iff_eq.2 hx
        clear hx
        go_wp2_with (first | (go_at_call 34; (with_reducible refine (even_lit A1 c1 x n g (w.drewN m1) HM1.out).mono ?_); rintro e w5 ⟨rfl, ⟨nd, rfl⟩⟩))
        go_roundg k1
        case measure => omega
        case rel => exact ⟨i + 1, by first | rfl | (rw [← EW.out]; rfl), ⟨by have := HI.out; omega⟩, ⟨E1.out⟩, by repeat (first | exact Drawn0.refl _ | apply Drawn0.step)⟩
      · rw [if_pos hx] at E
        have E1 := Aside0.mk E
        clear E eg hi hlt
        have hxb : ((x.length : Int) != n) = true := bne_iff_ne.2 hx
        clear hx
        go_wp2_with (first | (go_at_call 34; (with_reducible refine (even_lit A1 c1 x n g (w.drewN m1) HM1.out).mono ?_); rintro e w5 ⟨rfl, ⟨nd, rfl⟩⟩))
        go_ret
        exact ⟨by rw [E1.out]; rfl, by repeat (first | exact Drawn0.refl _ | apply Drawn0.step)⟩
theorem even_contains (n : Int) (g : Nat) (A0 : Option Addr) (c0 : Nat) (l0 : List (List Int)) (w : World) (hm : w.heap[g]? = some (.cells #[.int .i64 n] 3 (0, 0))) (hr0 : Kd.C (Kd.slice 37 (Kd.int .u32)) w A0 l0.length l0) :
    Calls Tryd.prog 33 #[.slice A0 l0.length c0, .func (.func 34) #[] #[.pointer (some ⟨g, 0, none⟩)]] w fun e w' => e = .returned (.bool (decide (ixEven n l0 0 ≥ 0))) ∧ Drawn0 w w' := by
  have HR0 := Aside0.mk hr0
  have HM := Aside0.mk hm
  clear hr0 hm
  go_enter Tryd.func33, Tryd.ntmps33
  go_wp2_with (first | (go_at_call 46; (with_reducible refine (even_index n g A0 c0 l0 _ HM.out HR0.out).mono ?_); rintro e w5 ⟨rfl, ⟨nd, rfl⟩⟩))
  go_ret
  exact ⟨rfl, by repeat (first | exact Drawn0.refl _ | apply Drawn0.step)⟩
def ideal_even.f (l : List (List Int)) (n : Int) : Option Bool := some (l.all fun x => decide ((x.length : Int) = n))
theorem ideal_even.calls (A0 : Option Addr) (c0 : Nat) (l0 : List (List Int)) (a1 : Int) (r : Bool) (w : World) (hr0 : Kd.C (Kd.slice 37 (Kd.int .u32)) w A0 l0.length l0) (hc0 : l0.length ≤ c0) (h : ideal_even.f l0 a1 = some r) :
    Calls Tryd.prog 20 #[.slice A0 l0.length c0, .int .i64 a1] w fun e w' => e = .returned (.bool r) ∧ Below w.heap.size w w' := by
  unfold ideal_even.f at h
  obtain rfl := Option.some.inj h
  clear h
  have hmf : ∀ (fn : Fn) (first cap : Array Value) (w : World), (Instr.makeFunc fn first cap).run Tryd.prog w = .ok (.func fn first cap) w := fun _ _ _ _ => rfl
  have HR0 := Aside0.mk hr0
  clear hr0 hc0
  have HM := Aside0.mk (blk_new w (.cells #[.int .i64 a1] 3))
  go_enter Tryd.func20, Tryd.ntmps20
  go_wp2_with (first | (go_at_call 33; (with_reducible refine (even_contains a1 w.heap.size A0 c0 l0 _ HM.out (Kd.C_below HR0.out (below_alloc (Below.refl _ _) _))).mono ?_); rintro e w5 ⟨rfl, ⟨nd, rfl⟩⟩))
  go_ret
  exact ⟨by rw [← ixEven_all a1 l0 0]; rfl, pw_below_drewN (below_alloc (Below.refl _ _) _) _⟩

end Go.Proofs.YtpicmnkkkgedeaaDoor.PAll
