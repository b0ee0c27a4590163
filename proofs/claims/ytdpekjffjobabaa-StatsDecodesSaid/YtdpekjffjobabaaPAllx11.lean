/- The Go functions that the laws reach, as Lean functions, and that each call comes to what its function says. Written by a program of this session (a turned copy of the kit's print). No condition beyond those that each theorem states. -/
import Derived.Test.YtdpekjffjobabaaPAllx0
import Derived.Test.YtdpekjffjobabaaPAllx3
import Derived.Test.YtdpekjffjobabaaPAllx9
import Derived.Test.YtdpekjffjobabaaPAllx10
namespace Go.Proofs.Ytdpekjffjobabaa.PAll
open Go.RowKit Go.Proofs.YtdpekjffjobabaaW.PrintWords Go.Proofs.YtdpekjffjobabaaW.PrintLast Go.Proofs.YtdpekjffjobabaaW.PrintMore
attribute [local go_sem] max2_int min2_int max_two min_two max_three min_three max_four min_four   -- for this text's walks alone
set_option linter.unusedVariables false
set_option linter.unusedSimpArgs false

/-! ### boxes of a function's own, and one row -/
theorem info_intH : (Try.prog.info? 3).map (fun i => (i.zero, i.size, i.bytes)) = some (some (.int .i64 0), 1, 8) := by kernel_rfl
theorem row_blkH {W : World} {k : IntKind} {e g base : Nat} {xs : List Int} (hb : W.heap[g]? = some (.cells (xs.map (Value.int k)).toArray e (0, 0))) (hg : base ≤ g) (hl : xs.length ≤ 1000) : (Kd.int k).R e W base (fun _ => True) (.slice (some ⟨g, 0, none⟩) xs.length xs.length) xs :=
  Kd.R_of_own ⟨by simp [encs], Or.inr ⟨g, xs.length, _, rfl, hg, hb, Nat.le_refl _, by simp only [maxLen]; omega, by simp, by simp [encs, List.take_of_length_le]⟩⟩ (fun _ _ => trivial)
theorem cells4H {w : World} {g : Nat} {t : TypeId} {a b c d : Value} (h : w.heap[g]? = some (.cells #[a, b, c, d] t (0, 0))) :
    w.cell? ⟨g, 0, none⟩ = some a ∧ w.cell? ⟨g, 1, none⟩ = some b ∧ w.cell? ⟨g, 2, none⟩ = some c ∧ w.cell? ⟨g, 3, none⟩ = some d :=
  ⟨(blk_cell h 0).trans rfl, (blk_cell h 1).trans rfl, (blk_cell h 2).trans rfl, (blk_cell h 3).trans rfl⟩
theorem cells7H {w : World} {g : Nat} {t : TypeId} {a b c d e f i : Value} (h : w.heap[g]? = some (.cells #[a, b, c, d, e, f, i] t (0, 0))) :
    w.cell? ⟨g, 0, none⟩ = some a ∧ w.cell? ⟨g, 1, none⟩ = some b ∧ w.cell? ⟨g, 2, none⟩ = some c ∧ w.cell? ⟨g, 3, none⟩ = some d ∧ w.cell? ⟨g, 4, none⟩ = some e ∧ w.cell? ⟨g, 5, none⟩ = some f ∧ w.cell? ⟨g, 6, none⟩ = some i :=
  ⟨(blk_cell h 0).trans rfl, (blk_cell h 1).trans rfl, (blk_cell h 2).trans rfl, (blk_cell h 3).trans rfl, (blk_cell h 4).trans rfl, (blk_cell h 5).trans rfl, (blk_cell h 6).trans rfl⟩
theorem cells8H {w : World} {g : Nat} {t : TypeId} {a b c d e f i j : Value} (h : w.heap[g]? = some (.cells #[a, b, c, d, e, f, i, j] t (0, 0))) :
    w.cell? ⟨g, 0, none⟩ = some a ∧ w.cell? ⟨g, 1, none⟩ = some b ∧ w.cell? ⟨g, 2, none⟩ = some c ∧ w.cell? ⟨g, 3, none⟩ = some d ∧ w.cell? ⟨g, 4, none⟩ = some e ∧ w.cell? ⟨g, 5, none⟩ = some f ∧ w.cell? ⟨g, 6, none⟩ = some i ∧ w.cell? ⟨g, 7, none⟩ = some j :=
  ⟨(blk_cell h 0).trans rfl, (blk_cell h 1).trans rfl, (blk_cell h 2).trans rfl, (blk_cell h 3).trans rfl, (blk_cell h 4).trans rfl, (blk_cell h 5).trans rfl, (blk_cell h 6).trans rfl, (blk_cell h 7).trans rfl⟩
theorem freesH {w : World} {g : Nat} {t : TypeId} {cs : Array Value} (h : w.heap[g]? = some (.cells cs t (0, 0))) :
    w.frozen? ⟨g, 0, none⟩ = false ∧ w.frozen? ⟨g, 1, none⟩ = false ∧ w.frozen? ⟨g, 2, none⟩ = false ∧ w.frozen? ⟨g, 3, none⟩ = false ∧ w.frozen? ⟨g, 4, none⟩ = false ∧ w.frozen? ⟨g, 5, none⟩ = false ∧ w.frozen? ⟨g, 6, none⟩ = false ∧ w.frozen? ⟨g, 7, none⟩ = false :=
  ⟨blk_frozen h 0, blk_frozen h 1, blk_frozen h 2, blk_frozen h 3, blk_frozen h 4, blk_frozen h 5, blk_frozen h 6, blk_frozen h 7⟩
/-- The boxes bs (address, type, what they hold), all of the function's own and apart; a row of whole numbers; nothing else is written. -/
structure Hp (w0 : World) (bs : List (Nat × Nat × Array Value)) (v : Value) (l : List Int) (w : World) : Prop where
  all : ∀ (i : Nat) (b : Nat × Nat × Array Value), bs[i]? = some b → w.heap[b.1]? = some (.cells b.2.2 b.2.1 (0, 0)) ∧ w0.heap.size ≤ b.1 ∧ 3 ≠ b.2.1
  nd : ∀ (i j : Nat) (b c : Nat × Nat × Array Value), bs[i]? = some b → bs[j]? = some c → i ≠ j → b.1 ≠ c.1
  row : (Kd.int .i64).R 3 w w0.heap.size (fun _ => True) v l
  hb : Below w0.heap.size w0 w
theorem Hp.none_ (w : World) : Hp w [] (.slice none 0 0) [] w := ⟨fun i b h => by simp at h, fun i j b c h => by simp at h, Kd.R_nil _ _ _ _ _, Below.refl _ _⟩
theorem Hp.below {w0 w w' : World} {bs : List (Nat × Nat × Array Value)} {v : Value} {l : List Int} (h : Hp w0 bs v l w) (hb : Below w.heap.size w w') : Hp w0 bs v l w' :=
  ⟨fun i b hi => ⟨blk_below (h.all i b hi).1 hb, (h.all i b hi).2⟩, h.nd, Kd.R_below h.row hb, below_step h.hb hb⟩
theorem Hp.drew {w0 w : World} {bs : List (Nat × Nat × Array Value)} {v : Value} {l : List Int} (h : Hp w0 bs v l w) : Hp w0 bs v l w.drew := h.below (below_drew1 (Below.refl _ _))
theorem Hp.box {w0 w w' : World} {bs : List (Nat × Nat × Array Value)} {v : Value} {l : List Int} {g t : Nat} {cs : Array Value} (h : Hp w0 bs v l w) (hl : w.heap.size ≤ g) (hbox : w'.heap[g]? = some (.cells cs t (0, 0))) (hb : Below w.heap.size w w') (ht : 3 ≠ t) : Hp w0 (bs ++ [(g, t, cs)]) v l w' := by
  have hB := h.below hb
  have hs := below_size h.hb
  refine ⟨fun i b hi => ?_, fun i j b c hi hj hne => ?_, hB.row, hB.hb⟩
  · rw [List.getElem?_append] at hi
    split at hi
    · exact hB.all i b hi
    · rw [List.getElem?_singleton] at hi
      split at hi
      · obtain rfl := Option.some.inj hi
        exact ⟨hbox, Nat.le_trans hs hl, ht⟩
      · cases hi
  · have lt : ∀ (i : Nat) (b : Nat × Nat × Array Value), bs[i]? = some b → b.1 < w.heap.size := fun i b hi => blk_lt (h.all i b hi).1
    rw [List.getElem?_append] at hi hj
    split at hi
    · split at hj
      · exact h.nd i j b c hi hj hne
      · rw [List.getElem?_singleton] at hj
        split at hj
        · obtain rfl := Option.some.inj hj
          have := lt i b hi
          show b.1 ≠ g
          omega
        · cases hj
    · rw [List.getElem?_singleton] at hi
      split at hi
      · obtain rfl := Option.some.inj hi
        split at hj
        · have := lt j c hj
          show g ≠ c.1
          omega
        · rw [List.getElem?_singleton] at hj
          split at hj
          · omega
          · cases hj
      · cases hi
theorem Hp.get {w0 w : World} {bs : List (Nat × Nat × Array Value)} {v : Value} {l : List Int} (h : Hp w0 bs v l w) (i : Nat) {g t : Nat} {cs : Array Value} (hi : bs[i]? = some (g, t, cs)) : w.heap[g]? = some (.cells cs t (0, 0)) := (h.all i _ hi).1
theorem Hp.lo {w0 w : World} {bs : List (Nat × Nat × Array Value)} {v : Value} {l : List Int} (h : Hp w0 bs v l w) (i : Nat) {g t : Nat} {cs : Array Value} (hi : bs[i]? = some (g, t, cs)) : w0.heap.size ≤ g := (h.all i _ hi).2.1
theorem Hp.put {w0 w : World} {bs : List (Nat × Nat × Array Value)} {v : Value} {l : List Int} (h : Hp w0 bs v l w) (i : Nat) {g t : Nat} {cs : Array Value} (hi : bs[i]? = some (g, t, cs)) (j : Nat) (u : Value) {c' : Array Value} (e : cs.setIfInBounds j u = c') : Hp w0 (bs.set i (g, t, c')) v l (w.setCell ⟨g, j, none⟩ u) := by
  have hlt := (List.getElem?_eq_some_iff.1 hi).1
  refine ⟨fun k b hk => ?_, fun a b c d ha hb hne => ?_, Kd.R_of_own (own_setCell (Kd.own_of_R h.row) (p := ⟨g, j, none⟩) (own_ne (Kd.own_of_R h.row) (h.get i hi) (h.all i _ hi).2.2) u) (fun _ _ => trivial), below_set h.hb (h.lo i hi)⟩
  · by_cases e2 : i = k
    · subst e2
      rw [List.getElem?_set_self hlt] at hk
      obtain rfl := Option.some.inj hk
      exact ⟨blk_put (h.get i hi) j u e, (h.all i _ hi).2⟩
    · rw [List.getElem?_set_ne e2] at hk
      exact ⟨blk_far (h.all k b hk).1 (h.nd k i b _ hk hi (fun x => e2 x.symm)) u, (h.all k b hk).2⟩
  · have same : ∀ (k : Nat) (b : Nat × Nat × Array Value), (bs.set i (g, t, c'))[k]? = some b → ∃ b', bs[k]? = some b' ∧ b'.1 = b.1 := fun k b hk => by
      by_cases e2 : i = k
      · subst e2
        rw [List.getElem?_set_self hlt] at hk
        obtain rfl := Option.some.inj hk
        exact ⟨_, hi, rfl⟩
      · rw [List.getElem?_set_ne e2] at hk
        exact ⟨b, hk, rfl⟩
    obtain ⟨c1, hc1, ec⟩ := same a c ha
    obtain ⟨d1, hd1, ed⟩ := same b d hb
    rw [← ec, ← ed]
    exact h.nd a b c1 d1 hc1 hd1 hne
theorem Hp.grow {w0 w w1 : World} {bs : List (Nat × Nat × Array Value)} {v v1 : Value} {l l1 : List Int} (h : Hp w0 bs v l w) (hR : (Kd.int .i64).R 3 w1 w0.heap.size (fun _ => True) v1 l1) (hg : w.grownBy w1 v.ownBlock) (hb : Below w0.heap.size w0 w1) : Hp w0 bs v1 l1 w1 :=
  ⟨fun i b hi => ⟨blk_grown (h.all i b hi).1 hg (own_ne (Kd.own_of_R h.row) (h.all i b hi).1 (h.all i b hi).2.2), (h.all i b hi).2⟩, h.nd, hR, hb⟩
theorem Hp.less {w0 w : World} {bs cs : List (Nat × Nat × Array Value)} {v : Value} {l : List Int} (h : Hp w0 (bs ++ cs) v l w) : Hp w0 bs v l w :=
  ⟨fun i b hi => h.all i b (by rw [List.getElem?_append_left (List.getElem?_eq_some_iff.1 hi).1]; exact hi), fun i j b c hi hj hne => h.nd i j b c (by rw [List.getElem?_append_left (List.getElem?_eq_some_iff.1 hi).1]; exact hi) (by rw [List.getElem?_append_left (List.getElem?_eq_some_iff.1 hj).1]; exact hj) hne, h.row, h.hb⟩
theorem Hp.add {w0 w : World} {bs : List (Nat × Nat × Array Value)} {v : Value} {l : List Int} {g t : Nat} {cs : Array Value} (h : Hp w0 bs v l w) (hbox : w.heap[g]? = some (.cells cs t (0, 0))) (hl : w0.heap.size ≤ g) (ht : 3 ≠ t) (hne : ∀ (i : Nat) (b : Nat × Nat × Array Value), bs[i]? = some b → b.1 ≠ g) : Hp w0 (bs ++ [(g, t, cs)]) v l w := by
  refine ⟨fun i b hi => ?_, fun i j b c hi hj hij => ?_, h.row, h.hb⟩
  · rw [List.getElem?_append] at hi
    split at hi
    · exact h.all i b hi
    · rw [List.getElem?_singleton] at hi
      split at hi
      · obtain rfl := Option.some.inj hi
        exact ⟨hbox, hl, ht⟩
      · cases hi
  · rw [List.getElem?_append] at hi hj
    split at hi
    · split at hj
      · exact h.nd i j b c hi hj hij
      · rw [List.getElem?_singleton] at hj
        split at hj
        · obtain rfl := Option.some.inj hj
          exact hne i b hi
        · cases hj
    · rw [List.getElem?_singleton] at hi
      split at hi
      · obtain rfl := Option.some.inj hi
        split at hj
        · exact fun e => hne j c hj e.symm
        · rw [List.getElem?_singleton] at hj
          split at hj
          · omega
          · cases hj
      · cases hi
theorem Hp.add2 {w0 w w' : World} {bs : List (Nat × Nat × Array Value)} {v : Value} {l : List Int} {g g' t t' : Nat} {cs cs' : Array Value} (h : Hp w0 bs v l w) (hb : Below w.heap.size w w') (hbox : w'.heap[g]? = some (.cells cs t (0, 0))) (hl : w.heap.size ≤ g) (ht : 3 ≠ t) (hbox' : w'.heap[g']? = some (.cells cs' t' (0, 0))) (hl' : w.heap.size ≤ g') (ht' : 3 ≠ t') (hne : g ≠ g') : Hp w0 (bs ++ [(g, t, cs)] ++ [(g', t', cs')]) v l w' := by
  have hs := below_size h.hb
  have lt : ∀ (i : Nat) (b : Nat × Nat × Array Value), bs[i]? = some b → b.1 < w.heap.size := fun i b hi => blk_lt (h.all i b hi).1
  refine ((h.below hb).add hbox (Nat.le_trans hs hl) ht (fun i b hi => by have := lt i b hi; omega)).add hbox' (Nat.le_trans hs hl') ht' (fun i b hi => ?_)
  rw [List.getElem?_append] at hi
  split at hi
  · have := lt i b hi; omega
  · rw [List.getElem?_singleton] at hi
    split at hi
    · obtain rfl := Option.some.inj hi
      exact hne
    · cases hi
theorem Hp.add1 {w0 w w' : World} {bs : List (Nat × Nat × Array Value)} {v : Value} {l : List Int} {g t : Nat} {cs : Array Value} (h : Hp w0 bs v l w) (hb : Below w.heap.size w w') (hbox : w'.heap[g]? = some (.cells cs t (0, 0))) (hl : w.heap.size ≤ g) (ht : 3 ≠ t) : Hp w0 (bs ++ [(g, t, cs)]) v l w' := h.box hl hbox hb ht
/-- A number's digits in a box. -/
abbrev big (u : Int) : Array Value := #[.int .u32 (bigD u 0), .int .u32 (bigD u 1), .int .u32 (bigD u 2), .int .u32 (bigD u 3), .int .u32 (bigD u 4), .int .u32 (bigD u 5), .int .u32 (bigD u 6), .int .u32 (bigD u 7)]
theorem big_zero : big 0 = #[.int .u32 0, .int .u32 0, .int .u32 0, .int .u32 0, .int .u32 0, .int .u32 0, .int .u32 0, .int .u32 0] := by simp [big, bigD]
theorem set_get {bs : List (Nat × Nat × Array Value)} {i : Nat} {b c : Nat × Nat × Array Value} (hi : bs[i]? = some b) : (bs.set i c)[i]? = some c := List.getElem?_set_self (List.getElem?_eq_some_iff.1 hi).1
theorem Hp.put8 {w0 w : World} {bs : List (Nat × Nat × Array Value)} {v : Value} {l : List Int} (h : Hp w0 bs v l w) (i : Nat) {g t : Nat} {a0 a1 a2 a3 a4 a5 a6 a7 : Value} (hi : bs[i]? = some (g, t, #[a0, a1, a2, a3, a4, a5, a6, a7])) (s0 s1 s2 s3 s4 s5 s6 s7 : Value) : Hp w0 (bs.set i (g, t, #[s0, s1, s2, s3, s4, s5, s6, s7])) v l ((((((((w.setCell ⟨g, 0, none⟩ s0).setCell ⟨g, 1, none⟩ s1).setCell ⟨g, 2, none⟩ s2).setCell ⟨g, 3, none⟩ s3).setCell ⟨g, 4, none⟩ s4).setCell ⟨g, 5, none⟩ s5).setCell ⟨g, 6, none⟩ s6).setCell ⟨g, 7, none⟩ s7) := by
  have h1 := h.put i hi 0 s0 (c' := #[s0, a1, a2, a3, a4, a5, a6, a7]) rfl
  have h2 := h1.put i (set_get hi) 1 s1 (c' := #[s0, s1, a2, a3, a4, a5, a6, a7]) rfl
  have h3 := h2.put i (set_get (set_get hi)) 2 s2 (c' := #[s0, s1, s2, a3, a4, a5, a6, a7]) rfl
  have h4 := h3.put i (set_get (set_get (set_get hi))) 3 s3 (c' := #[s0, s1, s2, s3, a4, a5, a6, a7]) rfl
  have h5 := h4.put i (set_get (set_get (set_get (set_get hi)))) 4 s4 (c' := #[s0, s1, s2, s3, s4, a5, a6, a7]) rfl
  have h6 := h5.put i (set_get (set_get (set_get (set_get (set_get hi))))) 5 s5 (c' := #[s0, s1, s2, s3, s4, s5, a6, a7]) rfl
  have h7 := h6.put i (set_get (set_get (set_get (set_get (set_get (set_get hi)))))) 6 s6 (c' := #[s0, s1, s2, s3, s4, s5, s6, a7]) rfl
  have h8 := h7.put i (set_get (set_get (set_get (set_get (set_get (set_get (set_get hi))))))) 7 s7 (c' := #[s0, s1, s2, s3, s4, s5, s6, s7]) rfl
  simpa only [List.set_set] using h8
theorem Hp.put7 {w0 w : World} {bs : List (Nat × Nat × Array Value)} {v : Value} {l : List Int} (h : Hp w0 bs v l w) (i : Nat) {g t : Nat} {a0 a1 a2 a3 a4 a5 a6 : Value} (hi : bs[i]? = some (g, t, #[a0, a1, a2, a3, a4, a5, a6])) (s0 s1 s2 s3 s4 s5 s6 : Value) : Hp w0 (bs.set i (g, t, #[s0, s1, s2, s3, s4, s5, s6])) v l (((((((w.setCell ⟨g, 0, none⟩ s0).setCell ⟨g, 1, none⟩ s1).setCell ⟨g, 2, none⟩ s2).setCell ⟨g, 3, none⟩ s3).setCell ⟨g, 4, none⟩ s4).setCell ⟨g, 5, none⟩ s5).setCell ⟨g, 6, none⟩ s6) := by
  have h1 := h.put i hi 0 s0 (c' := #[s0, a1, a2, a3, a4, a5, a6]) rfl
  have h2 := h1.put i (set_get hi) 1 s1 (c' := #[s0, s1, a2, a3, a4, a5, a6]) rfl
  have h3 := h2.put i (set_get (set_get hi)) 2 s2 (c' := #[s0, s1, s2, a3, a4, a5, a6]) rfl
  have h4 := h3.put i (set_get (set_get (set_get hi))) 3 s3 (c' := #[s0, s1, s2, s3, a4, a5, a6]) rfl
  have h5 := h4.put i (set_get (set_get (set_get (set_get hi)))) 4 s4 (c' := #[s0, s1, s2, s3, s4, a5, a6]) rfl
  have h6 := h5.put i (set_get (set_get (set_get (set_get (set_get hi))))) 5 s5 (c' := #[s0, s1, s2, s3, s4, s5, a6]) rfl
  have h7 := h6.put i (set_get (set_get (set_get (set_get (set_get (set_get hi)))))) 6 s6 (c' := #[s0, s1, s2, s3, s4, s5, s6]) rfl
  simpa only [List.set_set] using h7
/-- The calls on numbers, by the numbers. -/
theorem dig_big (v : Int) : Dig (bigD v 0) (bigD v 1) (bigD v 2) (bigD v 3) (bigD v 4) (bigD v 5) (bigD v 6) (bigD v 7) := by
  have h : ∀ i, 0 ≤ bigD v i ∧ bigD v i ≤ 65535 := fun i => by unfold bigD; omega
  exact ⟨h 0, h 1, h 2, h 3, h 4, h 5, h 6, h 7⟩
theorem bV_big (v : Int) : bigV (bigD v 0) (bigD v 1) (bigD v 2) (bigD v 3) (bigD v 4) (bigD v 5) (bigD v 6) (bigD v 7) = v % 340282366920938463463374607431768211456 := by
  simp only [bigV, bigD, Int.reducePow]
  omega
theorem digs_big {v w : Int} (h : v % 340282366920938463463374607431768211456 = w % 340282366920938463463374607431768211456) : digs v = digs w := by
  have e : ∀ i : Nat, i < 8 → bigD v i = bigD w i := fun i hi => by
    match i, hi with
    | 0, _ => simp only [bigD, Int.reducePow]; omega
    | 1, _ => simp only [bigD, Int.reducePow]; omega
    | 2, _ => simp only [bigD, Int.reducePow]; omega
    | 3, _ => simp only [bigD, Int.reducePow]; omega
    | 4, _ => simp only [bigD, Int.reducePow]; omega
    | 5, _ => simp only [bigD, Int.reducePow]; omega
    | 6, _ => simp only [bigD, Int.reducePow]; omega
    | 7, _ => simp only [bigD, Int.reducePow]; omega
  simp only [digs, e 0 (by decide), e 1 (by decide), e 2 (by decide), e 3 (by decide), e 4 (by decide), e 5 (by decide), e 6 (by decide), e 7 (by decide)]
theorem int_c (x : Int) (h : -9223372036854775808 ≤ x ∧ x ≤ 9223372036854775807) (w : World) : Calls Try.prog 29 #[.int .i64 x] w fun e w' => e = .returned (.agg (big x)) ∧ Below w.heap.size w w' :=
  offertoryref09_Int.calls x _ _ _ _ _ _ _ _ w (by unfold offertoryref09_Int.f; rw [if_pos h]; rfl)
theorem add_c (u v : Int) (w : World) : Calls Try.prog 31 #[.agg (big u), .agg (big v)] w fun e w' => e = .returned (.agg (big (u + v))) ∧ Below w.heap.size w w' :=
  offertoryref09_Add.calls _ _ _ _ _ _ _ _ _ _ _ _ _ _ _ _ _ _ _ _ _ _ _ _ w (by
    unfold offertoryref09_Add.f
    rw [if_pos ⟨dig_big u, dig_big v⟩, bV_big, bV_big, digs_big (w := u + v) (by omega)]
    rfl)
theorem mul_c (u v : Int) (w : World) : Calls Try.prog 19 #[.agg (big u), .agg (big v)] w fun e w' => e = .returned (.agg (big (u * v))) ∧ Below w.heap.size w w' :=
  offertoryref09_Mul.calls _ _ _ _ _ _ _ _ _ _ _ _ _ _ _ _ _ _ _ _ _ _ _ _ w (by
    unfold offertoryref09_Mul.f
    rw [if_pos ⟨dig_big u, dig_big v⟩, bV_big, bV_big, digs_big (w := u * v) (by rw [← Int.mul_emod])]
    rfl)
def wdH (v : Int) : Int × Int := (v / 18446744073709551616 % 18446744073709551616, v % 18446744073709551616)
theorem wide_c (u : Int) (w : World) : Calls Try.prog 20 #[.agg (big u)] w fun e w' => e = .returned (.agg #[.int .u64 (wdH u).1, .int .u64 (wdH u).2]) ∧ Below w.heap.size w w' :=
  offertoryref09_Big_Wide.calls _ _ _ _ _ _ _ _ _ _ w (by
    unfold offertoryref09_Big_Wide.f
    rw [if_pos (dig_big u)]
    simp only [wdH, bigD, Int.reducePow, Option.some.injEq, Prod.mk.injEq]
    omega)
def negH (u : Int) : Bool := decide (170141183460469231731687303715884105728 ≤ u % 340282366920938463463374607431768211456)
def absH (u : Int) : Int := if negH u = true then -u else u
theorem signed_c (u : Int) (w : World) : Calls Try.prog 32 #[.agg (big u)] w fun e w' => e = .returned (.tuple #[.agg (big (absH u)), .bool (negH u)]) ∧ Below w.heap.size w w' :=
  offertoryref09_Signed.calls _ _ _ _ _ _ _ _ _ _ _ _ _ _ _ _ _ w (by
    have h7 : bigD u 7 ≥ 32768 ↔ negH u = true := by
      unfold negH bigD
      rw [decide_eq_true_eq]
      constructor <;> intro h <;> omega
    unfold offertoryref09_Signed.f absH
    by_cases h : negH u = true
    · rw [if_pos (h7.2 h), if_pos h, h]
      unfold offertoryref09_Neg.f
      rw [if_pos (dig_big u), bV_big, digs_big (w := -u) (by omega)]
      rfl
    · rw [if_neg (fun x => h (h7.1 x)), if_neg h, Bool.not_eq_true _ |>.mp h])

end Go.Proofs.Ytdpekjffjobabaa.PAll
