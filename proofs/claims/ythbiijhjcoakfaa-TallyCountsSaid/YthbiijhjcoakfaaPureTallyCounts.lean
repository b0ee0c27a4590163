/- TallyCounts, the plain law. -/
import Derived.Test.YthbiijhjcoakfaaPlainTally
namespace Go.Proofs.Ythbiijhjcoakfaa.Pure
open Go.RowKit Go.Proofs.Ythbiijhjcoakfaa.PAll Go.Proofs.Ythbiijhjcoakfaa.Opn Go.Proofs.Ythbiijhjcoakfaa.Base Go.Proofs.Ythbiijhjcoakfaa.Plain Go.Proofs.YthbiijhjcoakfaaW.PrintWords Go.Proofs.YthbiijhjcoakfaaW.PrintLast Go.Proofs.YthbiijhjcoakfaaW.PrintMore
set_option linter.unusedVariables false
set_option linter.unusedSimpArgs false

/-- The vector's parts: the bins, the count, then numbers of bits. -/
theorem vec_facts (lo hi : Int) (es l : List Int) (n : Nat) (hm : l.length ≤ 100000) :
    (vecV lo hi es l n).length = es.length + 2 + 3 * n ∧ (∀ j, j < es.length + 1 → (vecV lo hi es l n).getD j 0 = (counts lo hi es (zeros es) l).getD j 0) ∧ (vecV lo hi es l n).getD (es.length + 1) 0 = l.length ∧
    (∀ j, es.length + 1 ≤ j → j < es.length + 2 + 3 * n → 0 ≤ (vecV lo hi es l n).getD j 0 ∧ (vecV lo hi es l n).getD j 0 ≤ l.length) ∧ (∀ j, j < es.length + 1 → 0 ≤ (counts lo hi es (zeros es) l).getD j 0 ∧ (counts lo hi es (zeros es) l).getD j 0 ≤ l.length) := by
  have hcl : (counts lo hi es (zeros es) l).length = es.length + 1 := by rw [counts_length, zeros_length]
  have hci := counts_in lo hi es l (zeros es) 0 (zeros_length es) (zeros_in es)
  have hxs : ∀ v ∈ (counts lo hi es (zeros es) l).map u32of ++ [u32of (l.length : Int)], 0 ≤ v ∧ v < 4294967296 := by
    intro v hv
    rw [List.mem_append, List.mem_map, List.mem_singleton] at hv
    rcases hv with ⟨a, _, rfl⟩ | rfl <;> (unfold u32of; omega)
  have hxl : ((counts lo hi es (zeros es) l).map u32of ++ [u32of (l.length : Int)]).length = es.length + 2 := by simp [hcl]
  have hin2 := bitsAll_in _ (l.map (plW lo hi)) n hxs
  have hg1 := fun m => bitsAll_get _ (l.map (plW lo hi)) n m hxs
  have hg2 := fun m => bitsAll_get _ (l.map (sqW lo hi)) (2 * n) m hin2
  have hl1 := bitsAll_length ((counts lo hi es (zeros es) l).map u32of ++ [u32of (l.length : Int)]) (l.map (plW lo hi)) n
  rw [hxl] at hl1
  have hcount : ∀ j, j < es.length + 1 → 0 ≤ (counts lo hi es (zeros es) l).getD j 0 ∧ (counts lo hi es (zeros es) l).getD j 0 ≤ l.length := by
    intro j hj
    have := Go.Proofs.Ythbiijhjcoakfaa.Plain.getD_in hci (n := j) (by omega)
    omega
  have hfirst : ∀ j, j < es.length + 2 → (vecV lo hi es l n).getD j 0 = ((counts lo hi es (zeros es) l).map u32of ++ [u32of (l.length : Int)]).getD j 0 := by
    intro j hj
    unfold vecV
    rw [hg2, if_pos (by omega), hg1, if_pos (by omega)]
  refine ⟨?_, ?_, ?_, ?_, hcount⟩
  · unfold vecV
    rw [bitsAll_length, hl1]
    omega
  · intro j hj
    rw [hfirst j (by omega)]
    have h1 : j < ((counts lo hi es (zeros es) l).map u32of).length := by simp [hcl]; omega
    have h2 : j < (counts lo hi es (zeros es) l).length := by omega
    have hc := hcount j hj
    have e : (counts lo hi es (zeros es) l).getD j 0 = (counts lo hi es (zeros es) l)[j] := by simp [List.getD, List.getElem?_eq_getElem h2]
    rw [e] at hc ⊢
    have e3 : ((counts lo hi es (zeros es) l).map u32of ++ [u32of (l.length : Int)]).getD j 0 = u32of (counts lo hi es (zeros es) l)[j] := by
      simp only [List.getD, List.getElem?_append_left h1, List.getElem?_map, List.getElem?_eq_getElem h2]
      rfl
    rw [e3]
    unfold u32of
    omega
  · rw [hfirst _ (by omega)]
    have e3 : ((counts lo hi es (zeros es) l).map u32of ++ [u32of (l.length : Int)]).getD (es.length + 1) 0 = u32of (l.length : Int) := by
      have h1 : ((counts lo hi es (zeros es) l).map u32of).length = es.length + 1 := by simp [hcl]
      rw [← h1]
      simp [List.getD]
    rw [e3]
    unfold u32of
    omega
  · intro j h1 h2
    by_cases hj : j < es.length + 2
    · have : j = es.length + 1 := by omega
      subst this
      rw [hfirst _ hj]
      have e3 : ((counts lo hi es (zeros es) l).map u32of ++ [u32of (l.length : Int)]).getD (es.length + 1) 0 = u32of (l.length : Int) := by
        have h1 : ((counts lo hi es (zeros es) l).map u32of).length = es.length + 1 := by simp [hcl]
        rw [← h1]
        simp [List.getD]
      rw [e3]
      unfold u32of
      omega
    · unfold vecV
      rw [hg2]
      by_cases h3 : j < es.length + 2 + n
      · rw [if_pos (by omega), hg1, if_neg (by omega), if_pos (by omega)]
        have := sumB_in (l.map (plW lo hi)) (j - ((counts lo hi es (zeros es) l).map u32of ++ [u32of (l.length : Int)]).length)
        rw [List.length_map] at this
        omega
      · rw [if_neg (by omega), if_pos (by omega)]
        have := sumB_in (l.map (sqW lo hi)) (j - (bitsAll ((counts lo hi es (zeros es) l).map u32of ++ [u32of (l.length : Int)]) (l.map (plW lo hi)) n).length)
        rw [List.length_map] at this
        omega
theorem take_sum : ∀ (c : List Int) (i : Nat), i < c.length → (c.take (i + 1)).sum = (c.take i).sum + c.getD i 0
  | c, i, h => by
    rw [List.take_succ_eq_append_getElem h, List.sum_append]
    simp [List.getD, List.getElem?_eq_getElem h]
theorem take_sum_in (c : List Int) (m : Nat) (h : ∀ j, j < c.length → 0 ≤ c.getD j 0) (hs : c.sum = m) : ∀ i, i ≤ c.length → 0 ≤ (c.take i).sum ∧ (c.take i).sum ≤ m := by
  have nonneg : ∀ i, i ≤ c.length → 0 ≤ (c.take i).sum := by
    intro i
    induction i with
    | zero => intro _; simp
    | succ i ih =>
      intro hi
      rw [take_sum c i (by omega)]
      have := ih (by omega)
      have := h i (by omega)
      omega
  have up : ∀ d i, i + d = c.length → (c.take i).sum ≤ m := by
    intro d
    induction d with
    | zero => intro i hi; rw [List.take_of_length_le (by omega), hs]; exact Int.le_refl _
    | succ d ih =>
      intro i hi
      have h1 := ih (i + 1) (by omega)
      rw [take_sum c i (by omega)] at h1
      have := h i (by omega)
      omega
  exact fun i hi => ⟨nonneg i hi, up (c.length - i) i (by omega)⟩
theorem l1_f (l v : List Int) (k8 : Nat) (x7 : Int) (hv : v.length ≤ 1000) (h8 : k8 < v.length) (hx : x7 = l.length) (hc : v.getD k8 0 = l.length) (hlm : l.length ≤ 1000) (hb : ∀ j, k8 ≤ j → j < v.length → 0 ≤ v.getD j 0 ∧ v.getD j 0 ≤ l.length) :
    ∀ d i : Nat, i + d = v.length → k8 ≤ i → Ev (fun k => offertorylaw12_TallyCounts.l1 k l v x7 (k8 : Int) (i : Int)) true := by
  intro d
  induction d with
  | zero =>
    intro i hi hk
    refine Ev.succ ?_
    simp only [offertorylaw12_TallyCounts.l1, rd_nat]
    refine Ev.neg (by omega) (Ev.pos hx (Ev.pos (by omega) (Ev.pos (by omega) (Ev.some_ ?_))))
    rw [hc, w64 (by omega)]
    simp
  | succ d ih =>
    intro i hi hk
    have := hb i hk (by omega)
    refine Ev.succ ?_
    simp only [offertorylaw12_TallyCounts.l1, rd_nat]
    refine Ev.pos (by omega) (Ev.pos (by omega) (Ev.neg (by rw [w64 (by omega)]; omega) ?_))
    rw [w64 (x := (i : Int) + 1) (by omega)]
    exact ih (i + 1) (by omega) (by omega)
theorem l0_f (l v c : List Int) (hc : ∀ j, j < c.length → v.getD j 0 = c.getD j 0) (hv : v.length ≤ 1000) (hcv : c.length < v.length) (hlm : l.length ≤ 1000) (hs : c.sum = l.length) (h0 : ∀ j, j < c.length → 0 ≤ c.getD j 0 ∧ c.getD j 0 ≤ l.length)
    (hcn : v.getD c.length 0 = l.length) (hb : ∀ j, c.length ≤ j → j < v.length → 0 ≤ v.getD j 0 ∧ v.getD j 0 ≤ l.length) :
    ∀ d i : Nat, i + d = c.length → Ev (fun k => offertorylaw12_TallyCounts.l0 k l v ((c.take i).sum) (c.length : Int) (i : Int)) true := by
  intro d
  induction d with
  | zero =>
    intro i hi
    refine Ev.succ ?_
    simp only [offertorylaw12_TallyCounts.l0]
    rw [List.take_of_length_le (by omega), hs]
    exact Ev.neg (by omega) (l1_f l v c.length _ hv hcv rfl hcn hlm hb (v.length - c.length) c.length (by omega) (Nat.le_refl _))
  | succ d ih =>
    intro i hi
    have hj := h0 i (by omega)
    have ht := take_sum_in c l.length (fun j hj => (h0 j hj).1) hs i (by omega)
    have ih' := ih (i + 1) (by omega)
    rw [take_sum c i (by omega)] at ih'
    refine Ev.succ ?_
    simp only [offertorylaw12_TallyCounts.l0, rd_nat]
    refine Ev.pos (by omega) (Ev.pos (by omega) (Ev.pos (by omega) ?_))
    rw [hc i (by omega), w64 (x := c.getD i 0) (by omega), w64 (x := (c.take i).sum + c.getD i 0) (by omega), w64 (x := (i : Int) + 1) (by omega)]
    exact ih'
theorem counts_j0 (lo hi most : Int) (es l : List Int) (hl : es.length ≤ 9223372036854775806) (h1 : -9223372036854775808 ≤ lo ∧ lo ≤ 9223372036854775807) (h2 : -9223372036854775808 ≤ hi ∧ hi ≤ 9223372036854775807) (hm : l.length ≤ 300) :
    Ev (fun k => offertorylaw12_TallyCounts.j0 k l lo hi most es) true := by
  have hn : ∃ n, soundE lo hi most es = 0 → IsBits lo hi n := by
    by_cases h : soundE lo hi most es = 0
    · obtain ⟨a, b, c, d, _⟩ := sound0 h
      obtain ⟨n, hn⟩ := isBits_exists c d
      exact ⟨n, fun _ => hn⟩
    · exact ⟨0, fun h' => absurd h' h⟩
  obtain ⟨n, hn⟩ := hn
  have he := encode_f lo hi most n es l hn hl h1 h2 (by omega)
  refine Ev.succ ?_
  simp only [offertorylaw12_TallyCounts.j0]
  have bad : ∀ v : List Int, Ev (fun k => offertorylaw12_TallyCounts.j1 k l v true lo hi most es) true := by
    intro v
    refine Ev.succ ?_
    simp only [offertorylaw12_TallyCounts.j1]
    exact Ev.pos (by first | rfl | trivial) (Ev.bind awake_f (Ev.now _))
  by_cases h : soundE lo hi most es = 0
  · simp only [h, if_true] at he
    by_cases hc : (l.length : Int) > most
    · simp only [hc, if_true] at he
      exact Ev.bind he (Ev.bind awake_f (Ev.pos (by first | rfl | trivial) (bad _)))
    · simp only [hc, if_false] at he
      obtain ⟨a, b, c, d, _, _, _, e⟩ := sound0 h
      have hb := hn h
      have h40 := hb.le40 d
      have h01 := hb.1
      obtain ⟨f1, f2, f3, f4, f5⟩ := vec_facts lo hi es l n.toNat (by omega)
      have hcl : (counts lo hi es (zeros es) l).length = es.length + 1 := by rw [counts_length, zeros_length]
      have hsum : (counts lo hi es (zeros es) l).sum = l.length := by rw [counts_sum _ _ _ _ _ (zeros_length es), zeros_sum]; omega
      refine Ev.bind he (Ev.bind awake_f (Ev.pos (by first | rfl | trivial) ?_))
      refine Ev.succ ?_
      simp only [offertorylaw12_TallyCounts.j1]
      refine Ev.neg (by decide) ?_
      rw [w64 (by omega), show (es.length : Int) + 1 = ((counts lo hi es (zeros es) l).length : Int) by rw [hcl]; rfl]
      have := l0_f l (vecV lo hi es l n.toNat) (counts lo hi es (zeros es) l) (fun j hj => f2 j (by omega)) (by omega) (by omega) (by omega) hsum (fun j hj => f5 j (by omega)) (by rw [hcl]; exact f3) (fun j h1 h2 => f4 j (by omega) (by omega)) (counts lo hi es (zeros es) l).length 0 (by omega)
      exact this
  · simp only [h, if_false] at he
    have hne : (soundE lo hi most es != 0) = true := by simpa using h
    refine Ev.bind he (Ev.bind awake_f (Ev.pos (by first | rfl | trivial) ?_))
    simp only [hne]
    exact bad _
theorem TallyCounts (a0_0 : Int) (a0_1 : Int) (a0_2 : Int) (l0_3 : List Int) (l1 : List Int) (w0_0 : (Lit.int .i64 a0_0).wf = true) (w0_1 : (Lit.int .i64 a0_1).wf = true) (w0_2 : (Lit.int .i64 a0_2).wf = true) (w0_3 : (SliceOk 8 (fun n => (Lit.int .i64 n).wf = true)) l0_3) (ok1 : (SliceOk 8 (fun n => (Lit.int .i64 n).wf = true)) l1) : ∃ k, offertorylaw12_TallyCounts.f k a0_0 a0_1 a0_2 l0_3 l1 = some true := by
  have h1 := i64_of w0_0
  have h2 := i64_of w0_1
  have hl : l0_3.length ≤ 9223372036854775806 := by have := w0_3.1; omega
  refine Ev.rounds ?_
  unfold offertorylaw12_TallyCounts.f
  refine Ev.if_ (fun h => ?_) (fun h => ?_)
  · exact Ev.pos (by omega) (counts_j0 _ _ _ _ _ hl h1 h2 (by rw [List.length_take]; omega))
  · exact counts_j0 _ _ _ _ _ hl h1 h2 (by omega)
end Go.Proofs.Ythbiijhjcoakfaa.Pure
