/- The Go functions that the laws reach, as Lean functions, and that each call comes to what its function says. Written by a program of this session (a turned copy of the kit's print). No condition beyond those that each theorem states. -/
import Derived.Test.YtpicmnkkkgedeaaDoorPAllx0
import Derived.Test.YtpicmnkkkgedeaaDoorPAllx1
import Derived.Test.YtpicmnkkkgedeaaDoorPAllx2
import Derived.Test.YtpicmnkkkgedeaaDoorPAllx4
import Derived.Test.YtpicmnkkkgedeaaDoorPAllx5
import Derived.Test.YtpicmnkkkgedeaaDoorPAllx6
namespace Go.Proofs.YtpicmnkkkgedeaaDoor.PAll
open Go.RowKit Go.Proofs.YtpicmnkkkgedeaaDoorW.PrintWords Go.Proofs.YtpicmnkkkgedeaaDoorW.PrintLast Go.Proofs.YtpicmnkkkgedeaaDoorW.PrintMore
attribute [local go_sem] max2_int min2_int max_two min_two max_three min_three max_four min_four   -- for this text's walks alone
set_option linter.unusedVariables false
set_option linter.unusedSimpArgs false

/-! ### lists made place by place -/
def mapO {α : Type} (f : Nat → Option α) : Nat → Option (List α)
  | 0 => some []
  | n + 1 => (mapO f n).bind fun l => (f n).bind fun x => some (l ++ [x])
theorem mapO_get {α : Type} {f : Nat → Option α} : ∀ (n : Nat) (l : List α), mapO f n = some l → l.length = n ∧ ∀ (i : Nat) (d : α), i < n → f i = some (l.getD i d)
  | 0, l, h => by
    obtain rfl := Option.some.inj h
    exact ⟨rfl, fun i d hi => absurd hi (by omega)⟩
  | n + 1, l, h => by
    unfold mapO at h
    obtain ⟨l1, h1, h⟩ := Option.bind_eq_some_iff.mp h
    obtain ⟨x, h2, h⟩ := Option.bind_eq_some_iff.mp h
    obtain rfl := Option.some.inj h
    obtain ⟨e, g⟩ := mapO_get n l1 h1
    refine ⟨by simp [e], fun i d hi => ?_⟩
    by_cases h3 : i < n
    · rw [g i d h3]
      simp [List.getD, List.getElem?_append_left (show i < l1.length by omega)]
    · obtain rfl : i = n := by omega
      rw [h2]
      simp [List.getD, ← e]
theorem mapO_mono {α : Type} {f g : Nat → Option α} (h : ∀ i, LeO (f i) (g i)) : ∀ n, LeO (mapO f n) (mapO g n)
  | 0 => LeO.refl _
  | n + 1 => by
    unfold mapO
    exact LeO.bind (mapO_mono h n) fun l => LeO.bind (h n) fun x => LeO.refl _
def upto {α : Type} (n i : Nat) (xs : List (List α)) : List (List α) := xs.take i ++ List.replicate (n - i) []
theorem upto_len {α : Type} {n i : Nat} {xs : List (List α)} (h : xs.length = n) (hi : i ≤ n) : (upto n i xs).length = n := by
  unfold upto
  rw [List.length_append, List.length_take, List.length_replicate, Nat.min_eq_left (by omega)]
  omega
theorem upto_zero {α : Type} (n : Nat) (xs : List (List α)) : upto n 0 xs = List.replicate n [] := by simp [upto]
theorem upto_all {α : Type} {n : Nat} {xs : List (List α)} (h : xs.length = n) : upto n n xs = xs := by simp [upto, ← h]
theorem upto_set {α : Type} {n i : Nat} {xs : List (List α)} (h : xs.length = n) (hi : i < n) : (upto n i xs).set i (xs.getD i []) = upto n (i + 1) xs := by
  unfold upto
  have e : (xs.take i).length = i := by rw [List.length_take]; omega
  rw [List.set_append_right (h := by omega), e, Nat.sub_self, show n - i = (n - (i + 1)) + 1 by omega, List.replicate_succ, List.set_cons_zero, List.take_succ_eq_append_getElem (by omega), List.append_assoc]
  simp [List.getD, show i < xs.length by omega]
theorem upto_same {α : Type} {n i : Nat} {xs : List (List α)} (h : xs.length = n) (hi : i < n) (he : xs.getD i [] = []) : upto n i xs = upto n (i + 1) xs := by
  rw [← upto_set h hi, he]
  have h0 : (upto n i xs)[i]? = some [] := by
    unfold upto
    have e : (xs.take i).length = i := by rw [List.length_take]; omega
    rw [List.getElem?_append_right (by omega), e, Nat.sub_self, List.getElem?_replicate, if_pos (by omega)]
  refine List.ext_getElem? fun j => ?_
  rw [List.getElem?_set]
  split
  · subst i
    rw [if_pos (get_lt h0), h0]
  · rfl
theorem upto_first {α : Type} {n : Nat} {xs : List (List α)} : ∀ (i : Nat), xs.length = n → i ≤ n → (∀ j, j < i → xs.getD j [] = []) → upto n i xs = List.replicate n []
  | 0, _, _, _ => upto_zero _ _
  | i + 1, h, hi, he => by rw [← upto_same h (by omega) (he i (by omega))]; exact upto_first i h (by omega) fun j hj => he j (by omega)
theorem RM.up {rs rs' : List Rw} {Lf : Value → List Int → Prop} {vs : List Value} {xs : List (List (List Int))} (h : RM rs Lf vs xs) (hr : ∀ (i : Nat) (r : Rw), rs[i]? = some r → ∃ j : Nat, rs'[j]? = some r) : RM rs' Lf vs xs :=
  ⟨h.1, fun j v x h1 h2 => (h.2 j v x h1 h2).imp id fun ⟨i, cs, h3, h4⟩ => (hr i _ h3).imp fun j hj => ⟨cs, hj, h4⟩⟩
theorem RM.lf {rs : List Rw} {Lf Lf' : Value → List Int → Prop} {vs : List Value} {xs : List (List (List Int))} (h : RM rs Lf vs xs) (hl : ∀ v x, Lf v x → Lf' v x) : RM rs Lf' vs xs :=
  ⟨h.1, fun j v x h1 h2 => (h.2 j v x h1 h2).imp id fun ⟨i, cs, h3, h4⟩ => ⟨i, cs, h3, h4.mono hl⟩⟩
theorem RM.set {rs : List Rw} {Lf : Value → List Int → Prop} {vs : List Value} {xs : List (List (List Int))} (h : RM rs Lf vs xs) (i : Nat) {v : Value} {x : List (List Int)} {m : Nat} {cs : List Value} (hm : rs[m]? = some (35, v, cs)) (hx : RV Lf cs x) : RM rs Lf (vs.set i v) (xs.set i x) := by
  refine ⟨by simp [h.1], fun j u y h1 h2 => ?_⟩
  rw [List.getElem?_set] at h1 h2
  by_cases e : i = j
  · subst e
    rw [if_pos rfl] at h1 h2
    split at h1
    · split at h2
      · obtain rfl := Option.some.inj h1
        obtain rfl := Option.some.inj h2
        exact Or.inr ⟨m, cs, hm, hx⟩
      · cases h2
    · cases h1
  · rw [if_neg e] at h1 h2
    exact h.2 j u y h1 h2
theorem RM.reps (n : Nat) (Lf : Value → List Int → Prop) : RM [] Lf (List.replicate n (.slice none 0 0)) (List.replicate n []) := by
  refine ⟨by simp, fun j u y h1 h2 => ?_⟩
  rw [List.getElem?_replicate] at h1 h2
  split at h1
  · rw [if_pos (by assumption)] at h2
    obtain rfl := Option.some.inj h1
    obtain rfl := Option.some.inj h2
    exact Or.inl ⟨rfl, rfl⟩
  · cases h1
theorem Hq.rot {w0 w : World} {bs : List Bx} {a b c d : Rw} {rs : List Rw} {Lf : Value → List Int → Prop} (h : Hq w0 bs (a :: b :: c :: d :: rs) Lf w) : Hq w0 bs (b :: c :: d :: a :: rs) Lf w := by
  refine h.pick (fun i => if i < 3 then i + 1 else if i = 3 then 0 else i) (fun i j _ _ e => ?_) (fun i r hi => ?_)
  · skip
    split at e <;> split at e <;> (try split at e) <;> (try split at e) <;> omega
  · match i, hi with
    | 0, hi => exact hi
    | 1, hi => exact hi
    | 2, hi => exact hi
    | 3, hi => exact hi
    | i + 4, hi =>
      rw [if_neg (by omega), if_neg (by omega)]
      exact hi
theorem below_drawn {w w' : World} (h : Drawn0 w w') : Below w.heap.size w w' := by
  obtain ⟨n, rfl⟩ := h
  exact pw_below_drewN (Below.refl _ _) n
theorem madeN (n : Nat) : madeCells #[.slice none 0 0] n = (List.replicate n (Value.slice none 0 0)).toArray := by
  apply Array.ext
  · simp [madeCells]
  · intro i h1 h2
    simp [madeCells, Nat.mod_one]
theorem info_35S : (Tryd.prog.info? 35).map (fun i => (i.zero, i.size, i.bytes)) = some (some (.slice none 0 0), 1, 24) := by kernel_rfl
theorem info_22S : (Tryd.prog.info? 22).map (fun i => (i.zero, i.size, i.bytes)) = some (some (.slice none 0 0), 1, 24) := by kernel_rfl
theorem make22 (n : Nat) (hn : n ≤ 1000000) (W : World) : (Instr.makeSlice 22 (.int .i64 (n : Int)) (.int .i64 (n : Int))).run Tryd.prog W = .ok (.slice (some ⟨W.heap.size, 0, none⟩) n n) (W.alloc (.cells (List.replicate n (.slice none 0 0)).toArray 35)) := by
  rw [← madeN]
  exact print_make_of 22 35 (.slice none 0 0) 24 Tryd.underlying22 info_35S rfl (by decide) n (by omega) W
theorem make23 (n : Nat) (hn : n ≤ 1000000) (W : World) : (Instr.makeSlice 23 (.int .i64 (n : Int)) (.int .i64 (n : Int))).run Tryd.prog W = .ok (.slice (some ⟨W.heap.size, 0, none⟩) n n) (W.alloc (.cells (List.replicate n (.slice none 0 0)).toArray 22)) := by
  rw [← madeN]
  exact print_make_of 23 22 (.slice none 0 0) 24 Tryd.underlying23 info_22S rfl (by decide) n (by omega) W
theorem Hq.addrow {w0 w : World} {bs : List Bx} {rs : List Rw} {Lf : Value → List Int → Prop} (h : Hq w0 bs rs Lf w) {e g n : Nat} {cs : List Value} (hbox : w.heap[g]? = some (.cells cs.toArray e (0, 0))) (hl : w0.heap.size ≤ g) (ht : 37 ≠ e) (hn : cs.length = n) (hm : n ≤ 1000000) (h1 : ∀ (j : Nat) (s : Rw), rs[j]? = some s → s.2.1.ownBlock ≠ some g) (h2 : ∀ (j : Nat) (b : Bx), bs[j]? = some b → b.1 ≠ g) : Hq w0 bs ((e, .slice (some ⟨g, 0, none⟩) n n, cs) :: rs) Lf w := by
  refine h.row ⟨by simp, Or.inr ⟨g, n, _, by rw [hn], hl, hbox, by rw [hn]; exact Nat.le_refl _, by simp only [maxLen]; omega, by simp [hn], by simp only [hn, Nat.mul_one]; exact List.take_of_length_le (by simp [hn])⟩⟩ ht (fun j s k hj hk e2 => ?_) (fun j b hj hk => ?_)
  · obtain rfl := Option.some.inj hk
    exact h1 j s hj e2
  · obtain e3 : g = b.1 := Option.some.inj hk
    exact h2 j b hj e3.symm
theorem Hq.addbox {w0 w : World} {bs : List Bx} {rs : List Rw} {Lf : Value → List Int → Prop} (h : Hq w0 bs rs Lf w) {g t : Nat} {cs : Array Value} (hbox : w.heap[g]? = some (.cells cs t (0, 0))) (hl : w0.heap.size ≤ g) (ht : 37 ≠ t) (h1 : ∀ (j : Nat) (s : Rw), rs[j]? = some s → s.2.1.ownBlock ≠ some g) (h2 : ∀ (j : Nat) (b : Bx), bs[j]? = some b → b.1 ≠ g) : Hq w0 (bs ++ [(g, t, cs)]) rs Lf w := by
  refine ⟨fun i b hi => ?_, fun i j b c hi hj hne => ?_, h.rows, h.rnd, fun i j r b hi hj => ?_, h.leaf, h.hb⟩
  · rcases get_snoc hi with hi | ⟨_, rfl⟩
    · exact h.all i b hi
    · exact ⟨hbox, hl, ht⟩
  · rcases get_snoc hi with hi | ⟨ei, rfl⟩
    · rcases get_snoc hj with hj | ⟨_, rfl⟩
      · exact h.nd i j b c hi hj hne
      · exact h2 i b hi
    · rcases get_snoc hj with hj | ⟨ej, rfl⟩
      · exact fun e => h2 j c hj e.symm
      · omega
  · rcases get_snoc hj with hj | ⟨_, rfl⟩
    · exact h.rb i j r b hi hj
    · exact h1 i r hi
theorem Hq.far37 {w0 w : World} {bs : List Bx} {rs : List Rw} {Lf : Value → List Int → Prop} (h : Hq w0 bs rs Lf w) (i : Nat) {r : Rw} (hi : rs[i]? = some r) {k : Nat} {cells : Array Value} (hk : w.heap[k]? = some (.cells cells 37 (0, 0))) : some k ≠ r.2.1.ownBlock := by
  intro e
  obtain ⟨c2, hc2⟩ := own_typed (h.rows i r hi).1 k e.symm
  rw [hk] at hc2
  injection hc2 with hc2
  injection hc2 with _ hc2
  exact (h.rows i r hi).2 hc2
theorem Hq.r3m {w0 w : World} {bs : List Bx} {rs mids : List Rw} {Lf : Value → List Int → Prop} (h : Hq w0 bs rs Lf w) (i : Nat) {v : Value} {cs : List Value} {xs : List (List (List Int))} (hi : rs[i]? = some (22, v, cs)) (off : Nat) (hup : ∀ (j : Nat) (r : Rw), mids[j]? = some r → rs[j + off]? = some r) (hx : RM mids Lf cs xs) (ok : Nat → Prop) (h1 : ∀ k, v.ownBlock = some k → ok k) (h2 : ∀ (j : Nat) (r : Rw) (k : Nat), mids[j]? = some r → r.2.1.ownBlock = some k → ok k) (h3 : ∀ k cells, w.heap[k]? = some (.cells cells 37 (0, 0)) → ok k) : (Kd.slice 35 (Kd.slice 37 (Kd.int .u32))).R 22 w w0.heap.size ok v xs := by
  have hr := (h.rows i _ hi).1
  refine R_mk hr rfl hx.1 (fun j u x hj hxj => ?_) h1
  rcases hx.2 j u x hj hxj with ⟨rfl, rfl⟩ | ⟨m, c, hm, hc⟩
  · exact ⟨_, rfl, Kd.R_nil _ _ _ _ _⟩
  · refine ⟨u, rfl, Kd.R_mono (h.r2 (m + off) (hup m _ hm) hc) (fun k hk => ?_)⟩
    rcases hk with hk | ⟨cells, hk⟩
    · refine ⟨h2 m _ k hm hk, fun e => ?_⟩
      obtain ⟨c1, hc1⟩ := own_typed (h.rows _ _ (hup m _ hm)).1 k hk
      obtain ⟨c2, hc2⟩ := own_typed hr k e.symm
      rw [hc1] at hc2
      injection hc2 with hc2
      injection hc2 with _ hc2
      cases hc2
    · exact ⟨h3 k cells hk, h.far37 i hi hk⟩
theorem new_slice {w1 w2 : World} {g n c : Nat} (h : w1.heap.size ≤ g) (h2 : g < w2.heap.size) : NewPtr (.slice (some ⟨g, 0, none⟩) n c) w1 w2 := fun k hk => by
  have : g = k := Option.some.inj hk
  omega
theorem row_step {P : Program} {ops : Array Oper} {o : Oper} {a : Act} {Q : Exit → Act → World → Prop} {Kc : Act → World → Prop} {W : World} (hw : Region.wanted o (yielded ops a.tmps) = true) {n : Nat} {cs : Array Value} {t : TypeId}
    (hrun : (execOp a.eval o).run P W = .ok (.value (.slice (some ⟨W.heap.size, 0, none⟩) n n)) (W.alloc (.cells cs t (0, 0))))
    (h : ∀ g, W.heap.size ≤ g → ∀ w1, w1.heap[g]? = some (.cells cs t (0, 0)) → Below W.heap.size W w1 → Kc (a.put o.dst (.slice (some ⟨g, 0, none⟩) n n)) w1) : if Region.wanted o (yielded ops a.tmps) = true then Oper.wp P o a W Kc Q else Kc (a.put o.dst undef) W :=
  event_step hw hrun (h _ (Nat.le_refl _) _ (blk_new W _) (below_alloc (Below.refl _ _) _))
theorem alloc_lt (w : World) (o : Obj) : w.heap.size < (w.alloc o).heap.size := by show _ < (w.heap.push _).size; simp
theorem Hq.four {w0 w w' : World} {bs : List Bx} {Lf : Value → List Int → Prop} (h : Hq w0 bs [] Lf w) (hb : Below w.heap.size w w') {gV gG gO gL n : Nat} {cs : Array Value} (hV : w'.heap[gV]? = some (.cells cs 30 (0, 0))) (hG : w'.heap[gG]? = some (.cells (List.replicate n (.slice none 0 0)).toArray 35 (0, 0))) (hO : w'.heap[gO]? = some (.cells (List.replicate n (.slice none 0 0)).toArray 35 (0, 0))) (hL : w'.heap[gL]? = some (.cells (List.replicate n (.slice none 0 0)).toArray 22 (0, 0)))
    (lV : w.heap.size ≤ gV) (lG : w.heap.size ≤ gG) (lO : w.heap.size ≤ gO) (lL : w.heap.size ≤ gL) (hn : n ≤ 1000000) (h1 : gG ≠ gO) : Hq w0 (bs ++ [(gV, 30, cs)]) [(35, .slice (some ⟨gG, 0, none⟩) n n, List.replicate n (.slice none 0 0)), (35, .slice (some ⟨gO, 0, none⟩) n n, List.replicate n (.slice none 0 0)), (22, .slice (some ⟨gL, 0, none⟩) n n, List.replicate n (.slice none 0 0))] Lf w' := by
  have hs := below_size h.hb
  have lt : ∀ (i : Nat) (b : Bx), bs[i]? = some b → b.1 < w.heap.size := fun i b hi => blk_lt (h.all i b hi).1
  have ob : ∀ g : Nat, (Value.slice (some ⟨g, 0, none⟩) n n).ownBlock = some g := fun g => rfl
  have e1 : gG ≠ gL := blk_ne hG hL (by decide)
  have e2 : gO ≠ gL := blk_ne hO hL (by decide)
  have e3 : gV ≠ gL := blk_ne hV hL (by decide)
  have e4 : gV ≠ gO := blk_ne hV hO (by decide)
  have e5 : gV ≠ gG := blk_ne hV hG (by decide)
  have s1 := (h.below hb).addrow hL (Nat.le_trans hs lL) (by decide) (List.length_replicate ..) hn (fun j s hj => by simp at hj) (fun j b hj => by have := lt j b hj; omega)
  have s2 := s1.addrow hO (Nat.le_trans hs lO) (by decide) (List.length_replicate ..) hn (fun j s hj => by
    rcases get_cons hj with ⟨_, rfl⟩ | ⟨m, _, hm⟩
    · exact fun e => e2 (Option.some.inj e).symm
    · simp at hm) (fun j b hj => by have := lt j b hj; omega)
  have s3 := s2.addrow hG (Nat.le_trans hs lG) (by decide) (List.length_replicate ..) hn (fun j s hj => by
    rcases get_cons hj with ⟨_, rfl⟩ | ⟨m, _, hm⟩
    · exact fun e => h1 (Option.some.inj e).symm
    · rcases get_cons hm with ⟨_, rfl⟩ | ⟨m, _, hm⟩
      · exact fun e => e1 (Option.some.inj e).symm
      · simp at hm) (fun j b hj => by have := lt j b hj; omega)
  refine s3.addbox hV (Nat.le_trans hs lV) (by decide) (fun j s hj => ?_) (fun j b hj => by have := lt j b hj; omega)
  rcases get_cons hj with ⟨_, rfl⟩ | ⟨m, _, hm⟩
  · exact fun e => e5 (Option.some.inj e).symm
  · rcases get_cons hm with ⟨_, rfl⟩ | ⟨m, _, hm⟩
    · exact fun e => e4 (Option.some.inj e).symm
    · rcases get_cons hm with ⟨_, rfl⟩ | ⟨m, _, hm⟩
      · exact fun e => e3 (Option.some.inj e).symm
      · simp at hm
def seeG (k : Nat) (l0 l1 : List (List Int)) (l2 : List (List (List Int))) (sh : Int) (i : Nat) : Option (List Int) := (crowd_Has.f sh ((i : Int) + 1)).bind fun b => if b = true then ideal_gift.f k l0 l1 l2 sh (i : Int) else some []
def seeO (l1 : List (List Int)) (gv : Int) (i : Nat) : Option (List Int) := (crowd_Has.f gv ((i : Int) + 1)).bind fun b => if b = true then slices_Clone_uint32_uint32.f (rdV l1 (i : Int)) else some []
def seeL (l2 : List (List (List Int))) (sh gv : Int) (i j : Nat) : Option (List Int) := if j ≤ i then some [] else (crowd_Has.f sh ((i : Int) + 1)).bind fun a => (crowd_Has.f sh ((j : Int) + 1)).bind fun b => (crowd_Has.f gv ((i : Int) + 1)).bind fun c => (crowd_Has.f gv ((j : Int) + 1)).bind fun d => if (a && b && !(c && d)) = true then slices_Clone_uint32_uint32.f (rdV (rdM l2 (i : Int)) (j : Int)) else some []
def ideal_See.f (k : Nat) (l0 l1 : List (List Int)) (l2 : List (List (List Int))) (sh gv : Int) : Option (List (List Int) × List (List Int) × List (List (List Int)) × Int) :=
  (ideal_check.f k l0 l1 l2 sh gv).bind fun e => if e = 0 then (if (l0.length ≤ 1000 ∧ l1.length = l0.length ∧ l2.length = l0.length ∧ ∀ x ∈ l2, x.length = l0.length) then
    (mapO (seeG k l0 l1 l2 sh) l0.length).bind fun Gs => (mapO (seeO l1 gv) l0.length).bind fun Os => (mapO (fun i => mapO (seeL l2 sh gv i) l0.length) l0.length).bind fun Ls => some (Gs, Os, Ls, 0) else none) else some ([], [], [], e)
theorem seeG_mono (l0 l1 : List (List Int)) (l2 : List (List (List Int))) (sh : Int) (k i : Nat) : LeO (seeG k l0 l1 l2 sh i) (seeG (k + 1) l0 l1 l2 sh i) := by
  unfold seeG
  exact LeO.bind (LeO.refl _) fun b => LeO.ite (ideal_gift.mono _ _ _ _ _ _) (LeO.refl _)
theorem ideal_See.mono (l0 l1 : List (List Int)) (l2 : List (List (List Int))) (sh gv : Int) (k : Nat) : LeO (ideal_See.f k l0 l1 l2 sh gv) (ideal_See.f (k + 1) l0 l1 l2 sh gv) := by
  unfold ideal_See.f
  exact LeO.bind (ideal_check.mono _ _ _ _ _ _) fun e => LeO.ite (LeO.ite (LeO.bind (mapO_mono (fun i => seeG_mono _ _ _ _ _ i) _) fun Gs => LeO.refl _) (LeO.refl _)) (LeO.refl _)

end Go.Proofs.YtpicmnkkkgedeaaDoor.PAll
