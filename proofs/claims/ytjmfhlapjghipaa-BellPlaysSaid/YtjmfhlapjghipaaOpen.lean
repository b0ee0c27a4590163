/- How an argument reads as a value of a kind: for every type that is built of whole numbers, bools, strings, slices and structs, what the form's reader tells of the cells is what the printed functions ask for. -/
import Derived.Test.YtjmfhlapjghipaaWMore
import Derived.SizedLaws
import Derived.ChangeArms
import Derived.ChangeOld
import Derived.Deep.Slices
import Derived.KernelRfl
namespace Go.Proofs.Ytjmfhlapjghipaa.Opn
open Go.ChangeShapes Go.WideShapes Go.RowKit Go.Proofs.YtjmfhlapjghipaaW.PrintWords
set_option linter.unusedVariables false
set_option linter.unusedSimpArgs false

/-- Type t reads as values of the kind d, and each value is ok. -/
structure Opn (P : Program) (t : TypeId) {α : Type} (d : Kd α) (ok : α → Prop) : Prop where
  sz : P.cellsOf t = d.sz
  go : ∀ {H : Type} {enc : TypeId × Value → H} {W : World} {fuel : Nat} {cs : List Value} {x : DataW H × List MemPlace},
    DataW.trod enc P W 0 (fun _ => true) true fuel t cs = some x → (∀ n ∈ x.1.weights P t, n ≤ reachBytes) → ∃ v, d.K W v cs ∧ ok v

variable {P : Program}

theorem opn_int {t : TypeId} {k : IntKind} (ht : P.underlying t = some (.int k)) (hc : P.cellsOf t = 1) : Opn P t (Kd.int k) (fun n => (Lit.int k n).wf = true) :=
  ⟨hc, fun h _ => by
    obtain ⟨n, hcs, _, hw⟩ := DataW.trod_int ht h
    exact ⟨n, hcs, hw⟩⟩

theorem opn_bool {t : TypeId} (ht : P.underlying t = some .bool) (hc : P.cellsOf t = 1) : Opn P t Kd.bool (fun _ => True) :=
  ⟨hc, fun h _ => by
    obtain ⟨b, hcs, _⟩ := DataW.trod_bool ht h
    exact ⟨b, hcs, trivial⟩⟩

theorem opn_string {t : TypeId} (ht : P.underlying t = some .string) (hc : P.cellsOf t = 1) : Opn P t Kd.string (fun s => s.size ≤ 140737488351232) :=
  ⟨hc, fun h hw => by
    obtain ⟨s, hcs, hx, _⟩ := DataW.trod_string ht h
    subst hx
    refine ⟨s, hcs, ?_⟩
    have := hw s.data.toList.length (by simp [DataW.weights])
    rw [Array.length_toList] at this
    exact this⟩

theorem list_of {α : Type} {p : Nat → α → Prop} : ∀ n, (∀ i, i < n → ∃ x, p i x) → ∃ xs : List α, xs.length = n ∧ ∀ i x, xs[i]? = some x → p i x
  | 0, _ => ⟨[], rfl, fun i x h => by simp at h⟩
  | n + 1, h => by
    obtain ⟨xs, hl, hx⟩ := list_of n (fun i hi => h i (by omega))
    obtain ⟨y, hy⟩ := h n (by omega)
    refine ⟨xs ++ [y], by simp [hl], fun i x hi => ?_⟩
    rcases Nat.lt_or_ge i xs.length with h1 | h1
    · rw [List.getElem?_append_left h1] at hi
      exact hx i x hi
    · rw [List.getElem?_append_right h1] at hi
      have h2 : i - xs.length < 1 := by
        have := (List.getElem?_eq_some_iff.1 hi).1
        simpa using this
      have h3 : i = n := by omega
      subst h3
      rw [show i - xs.length = 0 by omega] at hi
      have h4 : y = x := by simpa using hi
      subst h4
      exact hy

theorem cells_get {w : World} {base : Nat} {a : Addr} {n : Nat} {cs : List Value} (h : w.cells? base a n = some cs) : cs.length = n ∧ ∀ i u, cs[i]? = some u → w.cell? (a.add i) = some u := by
  unfold World.cells? at h
  split at h
  · have hl := mapM_some_length h
    refine ⟨by simpa using hl, fun i u hi => ?_⟩
    have hlt : i < n := by
      have := (List.getElem?_eq_some_iff.1 hi).1
      rw [hl] at this
      simpa using this
    rw [mapM_some_get h i i (by simp [hlt])]
    exact hi
  · cases h

theorem mem_weightsAll {H : Type} {e : TypeId} : ∀ {ds : List (DataW H)} {d : DataW H}, d ∈ ds → ∀ n ∈ d.weights P e, n ∈ DataW.weightsAll P e ds
  | d0 :: ds, d, hd, n, hn => by
    simp only [DataW.weightsAll, List.mem_append]
    rcases List.mem_cons.1 hd with rfl | hd
    · exact Or.inl hn
    · exact Or.inr (mem_weightsAll hd n hn)

/-- What a slice's value is held to: no longer than its weight allows. -/
def SliceOk {α : Type} (bytes : Nat) (ok : α → Prop) (xs : List α) : Prop := xs.length * bytes ≤ 140737488351232 ∧ xs.length ≤ 9223372036854775807 ∧ ∀ x ∈ xs, ok x

theorem opn_slice {t e : TypeId} {α : Type} {d : Kd α} {ok : α → Prop} {bytes : Nat} (ht : P.underlying t = some (.slice e)) (hc : P.cellsOf t = 1) (hb : P.bytesOf e = bytes) (E : Nat) (he : Opn P e d ok) :
    Opn P t (Kd.slice E d) (SliceOk bytes ok) :=
  ⟨hc, fun {H enc W fuel cs x} h hw => by
    rcases Go.Deep.open_slice ht h with ⟨hcs, _⟩ | ⟨a, len, cap, m, n, D, Pl, hcs, _, hl, hm, hmm, hx, hel⟩
    · refine ⟨[], ⟨none, 0, by simpa using hcs, Nat.le_refl _, Kd.C_nil _ _⟩, by simp [SliceOk]⟩
    · simp only [if_true] at hmm
      obtain rfl : cap = m := hmm.symm
      subst hx
      have hws : ∀ i, i < len → ∀ n ∈ (D i).weights P e, n ≤ reachBytes := fun i hi n hn => by
        refine hw n ?_
        simp only [DataW.weights, ht, List.mem_cons, List.mem_append]
        exact Or.inr (Or.inl (mem_weightsAll (List.mem_map.2 ⟨i, by simpa using hi, rfl⟩) n hn))
      obtain ⟨xs, hxl, hxs⟩ := list_of (p := fun i v => ok v ∧ ∃ cs', W.cells? 0 (a.add (i * P.cellsOf e)) (P.cellsOf e) = some cs' ∧ d.K W v cs') len (fun i hi => by
        obtain ⟨cs', h1, h2⟩ := hel i (by omega)
        obtain ⟨v, hv, hok⟩ := he.go h2 (hws i hi)
        exact ⟨v, hok, cs', h1, hv⟩)
      have hmx : len ≤ 9223372036854775807 := by
        have : maxLen = 9223372036854775807 := rfl
        omega
      refine ⟨xs, ⟨some a, cap, by rw [hxl]; exact hcs, by omega, ⟨rfl, by omega, fun _ => ⟨a, rfl, fun j p hj => ?_⟩⟩⟩, ?_, by omega, ?_⟩
      · obtain ⟨_, cs', h1, h2⟩ := hxs j p hj
        obtain ⟨h3, h4⟩ := cells_get h1
        refine ⟨cs', by rw [h3, he.sz], h2, fun i u hu => ?_⟩
        rw [← Go.Deep.add_add, ← he.sz]
        exact h4 i u hu
      · have h5 := hw ((len + (cap - len)) * P.bytesOf e) (by simp [DataW.weights, ht])
        rw [hb] at h5
        have h6 : len * bytes ≤ (len + (cap - len)) * bytes := Nat.mul_le_mul_right _ (by omega)
        have h7 : reachBytes = 140737488351232 := rfl
        rw [hxl]
        omega
      · intro x hx
        obtain ⟨i, hi, rfl⟩ := List.mem_iff_getElem.1 hx
        exact (hxs i _ (List.getElem?_eq_getElem hi)).1⟩

/-- Types in line. -/
structure OpnL (P : Program) (ts : List TypeId) {α : Type} (d : Kd α) (ok : α → Prop) : Prop where
  sz : (ts.map P.cellsOf).sum = d.sz
  go : ∀ {H : Type} {enc : TypeId × Value → H} {W : World} {fuel : Nat} {cs : List Value} {xs : List (DataW H × List MemPlace)},
    cs.length = (ts.map P.cellsOf).sum → xs.length = ts.length → (∀ i t, ts[i]? = some t → DataW.trod enc P W 0 (fun _ => true) true fuel t ((cs.drop ((ts.take i).map P.cellsOf).sum).take (P.cellsOf t)) = xs[i]?) →
    (∀ n ∈ DataW.weightsEach P ts (xs.map (·.1)), n ≤ reachBytes) → ∃ v, d.K W v cs ∧ ok v

theorem opnL_one {t : TypeId} {α : Type} {d : Kd α} {ok : α → Prop} (h : Opn P t d ok) : OpnL P [t] d ok :=
  ⟨by simpa using h.sz, fun {H enc W fuel cs xs} hl hx hr hw => by
    match xs, hx with
    | [x], _ =>
      have h1 := hr 0 t rfl
      simp only [List.map_cons, List.map_nil, List.sum_cons, List.sum_nil, Nat.add_zero] at hl
      simp only [List.take_zero, List.map_nil, List.sum_nil, List.drop_zero, List.getElem?_cons_zero] at h1
      rw [← hl, List.take_length] at h1
      exact h.go h1 (fun n hn => hw n (by simpa [DataW.weightsEach] using hn))⟩

theorem opnL_cons {t : TypeId} {ts : List TypeId} {α β : Type} {d : Kd α} {d' : Kd β} {ok : α → Prop} {ok' : β → Prop} (h : Opn P t d ok) (h' : OpnL P ts d' ok') : OpnL P (t :: ts) (Kd.pair d d') (fun v => ok v.1 ∧ ok' v.2) :=
  ⟨by simp only [List.map_cons, List.sum_cons, h.sz, h'.sz]; rfl, fun {H enc W fuel cs xs} hl hx hr hw => by
    match xs, hx with
    | x :: xs, hx =>
      simp only [List.map_cons, List.sum_cons] at hl
      have h1 := hr 0 t rfl
      simp only [List.take_zero, List.map_nil, List.sum_nil, List.drop_zero, List.getElem?_cons_zero] at h1
      obtain ⟨v, hv, hok⟩ := h.go h1 (fun n hn => hw n (by simp only [List.map_cons, DataW.weightsEach, List.mem_append]; exact Or.inl hn))
      obtain ⟨v', hv', hok'⟩ := h'.go (cs := cs.drop (P.cellsOf t)) (xs := xs) (fuel := fuel) (enc := enc) (W := W) (by rw [List.length_drop]; omega) (by simpa using hx) (fun i t' hi => by
        have h2 := hr (i + 1) t' (by simpa using hi)
        simp only [List.take_succ_cons, List.map_cons, List.sum_cons, List.getElem?_cons_succ] at h2
        rw [List.drop_drop]
        exact h2) (fun n hn => hw n (by simp only [List.map_cons, DataW.weightsEach, List.mem_append]; exact Or.inr hn))
      exact ⟨(v, v'), ⟨_, _, (List.take_append_drop (P.cellsOf t) cs).symm, hv, hv'⟩, hok, hok'⟩⟩

/-- A struct by its fields' types; the closed facts by the kernel. -/
def structOk (P : Program) (t : TypeId) (fs : Array Field) (ts : List TypeId) : Bool :=
  decide (fs.toList.map (·.type) = ts) && decide (P.cellsOf t = (ts.map P.cellsOf).sum) && decide (fs.toList.map (·.offset) = (List.range ts.length).map fun i => ((ts.take i).map P.cellsOf).sum)

theorem opn_struct {t : TypeId} {fs : Array Field} {ts : List TypeId} {α : Type} {d : Kd α} {ok : α → Prop} (ht : P.underlying t = some (.struct fs)) (hok : structOk P t fs ts = true) (h : OpnL P ts d ok) : Opn P t d ok := by
  simp only [structOk, Bool.and_eq_true, decide_eq_true_eq] at hok
  obtain ⟨⟨h1, h2⟩, h3⟩ := hok
  have hlen : ts.length = fs.size := by rw [← h1]; simp
  refine ⟨h2.trans h.sz, fun {H enc W fuel cs x} hx hw => ?_⟩
  obtain ⟨xs, n, _, rfl, hl, hxl, hf⟩ := DataW.trod_struct ht hx
  refine h.go (fuel := n) (enc := enc) (xs := xs) (by rw [hl, h2]) (by omega) (fun i t' hi => ?_) (fun m hm => hw m ?_)
  · have hlt : i < fs.size := by
      have := (List.getElem?_eq_some_iff.1 hi).1
      omega
    have hf1 := hf i fs[i] (by simp [hlt])
    have e1 : fs[i].type = t' := by
      have : (fs.toList.map (·.type))[i]? = some t' := by rw [h1]; exact hi
      simpa [hlt] using this
    have e2 : fs[i].offset = ((ts.take i).map P.cellsOf).sum := by
      have h4 : (fs.toList.map (·.offset))[i]? = some fs[i].offset := by simp [hlt]
      rw [h3] at h4
      have h5 : i < ts.length := by omega
      simpa [h5] using h4.symm
    rw [e1, e2] at hf1
    exact hf1
  · simp only [DataW.weights, ht, h1]
    exact hm

theorem opn_iso {t : TypeId} {α β : Type} {d : Kd α} {ok : α → Prop} (h : Opn P t d ok) (f : β → α) (g : α → β) (hg : ∀ a, f (g a) = a) : Opn P t (Kd.iso d f) (fun b => ok (f b)) :=
  ⟨h.sz, fun hx hw => by
    obtain ⟨v, hv, hok⟩ := h.go hx hw
    exact ⟨g v, (show d.K _ (f (g v)) _ by rw [hg]; exact hv), by rw [hg]; exact hok⟩⟩

theorem Opn.imp {t : TypeId} {α : Type} {d : Kd α} {ok ok' : α → Prop} (h : Opn P t d ok) (hi : ∀ v, ok v → ok' v) : Opn P t d ok' :=
  ⟨h.sz, fun hx hw => by
    obtain ⟨v, hv, hok⟩ := h.go hx hw
    exact ⟨v, hv, hi v hok⟩⟩

/-- An argument, out of the row's readings. -/
theorem Opn.arg {t : TypeId} {α : Type} {d : Kd α} {ok : α → Prop} (h : Opn P t d ok) {H : Type} {enc : TypeId × Value → H} {W : World} {v : Value} {D : DataW H} {ps : List MemPlace} {ts : List TypeId} {ds : List (DataW H)} {j : Nat}
    (hd : DataW.Trod enc P W 0 (fun _ => true) true t v D ps) (hsz : (DataW.weightsEach P ts ds).all (· ≤ reachBytes) = true) (ht : ts[j]? = some t) (hj : ds[j]? = some D) : ∃ x, d.K W x v.cells.toList ∧ ok x := by
  obtain ⟨fuel, hf⟩ := hd
  refine h.go hf (fun n hn => ?_)
  have := List.all_eq_true.1 hsz n (DataW.weights_mem_each ht hj n hn)
  simpa using this

/-- What an argument leads to lay there before the call. -/
theorem trod_old {H : Type} {enc : TypeId × Value → H} {W : World} {t : TypeId} {v : Value} {D : DataW H} {ps : List MemPlace} (hd : DataW.Trod enc P W 0 (fun _ => true) true t v D ps) : ∀ x ∈ ps, x.block < W.heap.size := by
  obtain ⟨m, hm⟩ := hd
  exact DataW.trod_lt m _ _ _ hm

/-- A row that came in, told as one that may be shared. -/
theorem V_came {α : Type} {d : Kd α} (hd : Kd.Heap d) {e base : Nat} {W : World} {A : Option Addr} {c : Nat} {xs : List α} (h : d.C W A xs.length xs) (hl : xs.length ≤ c) : Kd.V d e W base (fun k_ => (fun _ : Nat => True) k_) (.slice A xs.length c) xs :=
  ⟨A, c, rfl, hl, fun _ hk => hd.C (fun k hlt => hk k trivial hlt) h⟩

theorem agg_of {cs : Array Value} {l : List Value} (h : (Value.agg cs).cells.toList = l) : Value.agg cs = .agg l.toArray := by
  subst h
  simp [Value.cells]

end Go.Proofs.Ytjmfhlapjghipaa.Opn
