/- The vector of any samples, place by place, as sums over the samples. -/
import Derived.Test.YthbiijhjcoakfaaPlainTally
namespace Go.Proofs.Ythbiijhjcoakfaa.Plain
open Go.RowKit Go.Proofs.Ythbiijhjcoakfaa.PAll Go.Proofs.Ythbiijhjcoakfaa.Opn Go.Proofs.Ythbiijhjcoakfaa.Base Go.Proofs.YthbiijhjcoakfaaW.PrintWords Go.Proofs.YthbiijhjcoakfaaW.PrintLast Go.Proofs.YthbiijhjcoakfaaW.PrintMore
set_option linter.unusedVariables false
set_option linter.unusedSimpArgs false

/-- How many samples a bin has. -/
def cB (lo hi : Int) (es : List Int) (j : Nat) (l : List Int) : Int := (l.map fun x => if binN es (clampV lo hi x) = j then (1 : Int) else 0).sum
theorem counts_get (lo hi : Int) (es : List Int) : ∀ (l c : List Int) (j : Nat), c.length = es.length + 1 → (counts lo hi es c l).getD j 0 = c.getD j 0 + cB lo hi es j l
  | [], c, j, _ => by simp [counts, cB]
  | x :: l, c, j, h => by
    have e : counts lo hi es c (x :: l) = counts lo hi es (bump c (binN es (clampV lo hi x))) l := rfl
    have hb := binN_le es (clampV lo hi x)
    have hs : cB lo hi es j (x :: l) = (if binN es (clampV lo hi x) = j then (1 : Int) else 0) + cB lo hi es j l := by simp [cB]
    rw [e, counts_get lo hi es l _ j (by rw [bump_length]; exact h), hs]
    have hg : (bump c (binN es (clampV lo hi x))).getD j 0 = c.getD j 0 + (if binN es (clampV lo hi x) = j then (1 : Int) else 0) := by
      unfold bump
      by_cases hj : binN es (clampV lo hi x) = j
      · rw [if_pos hj, hj]
        have : j < c.length := by omega
        simp [List.getD, this]
      · rw [if_neg hj]
        simp [List.getD, List.getElem?_set, hj]
    rw [hg]
    omega
theorem zeros_get (es : List Int) (j : Nat) : (zeros es).getD j 0 = 0 := by
  unfold zeros
  by_cases h : j < es.length + 1
  · simp [List.getD, h]
  · simp [List.getD, h]
/-- The vector at a place. -/
def vecAt (lo hi : Int) (es l : List Int) (n j : Nat) : Int :=
  if j < es.length + 1 then cB lo hi es j l % 4294967296 else if j < es.length + 2 then (l.length : Int) % 4294967296
  else if j < es.length + 2 + n then sumB (l.map (plW lo hi)) (j - (es.length + 2)) % 4294967296
  else if j < es.length + 2 + 3 * n then sumB (l.map (sqW lo hi)) (j - (es.length + 2 + n)) % 4294967296 else 0
theorem vec_get (lo hi : Int) (es l : List Int) (n j : Nat) : (vecV lo hi es l n).getD j 0 = vecAt lo hi es l n j := by
  have hcl : (counts lo hi es (zeros es) l).length = es.length + 1 := by rw [counts_length, zeros_length]
  have hxs : ∀ v ∈ (counts lo hi es (zeros es) l).map u32of ++ [u32of (l.length : Int)], 0 ≤ v ∧ v < 4294967296 := by
    intro v hv
    rw [List.mem_append, List.mem_map, List.mem_singleton] at hv
    rcases hv with ⟨a, _, rfl⟩ | rfl <;> (unfold u32of; omega)
  have hxl : ((counts lo hi es (zeros es) l).map u32of ++ [u32of (l.length : Int)]).length = es.length + 2 := by simp [hcl]
  have hin2 := bitsAll_in _ (l.map (plW lo hi)) n hxs
  have hl1 := bitsAll_length ((counts lo hi es (zeros es) l).map u32of ++ [u32of (l.length : Int)]) (l.map (plW lo hi)) n
  rw [hxl] at hl1
  have hpre : ((counts lo hi es (zeros es) l).map u32of ++ [u32of (l.length : Int)]).getD j 0 = if j < es.length + 1 then cB lo hi es j l % 4294967296 else if j < es.length + 2 then (l.length : Int) % 4294967296 else 0 := by
    have h1 : ((counts lo hi es (zeros es) l).map u32of).length = es.length + 1 := by simp [hcl]
    by_cases hj : j < es.length + 1
    · rw [if_pos hj]
      have h2 : j < (counts lo hi es (zeros es) l).length := by omega
      have hg := counts_get lo hi es l (zeros es) j (zeros_length es)
      rw [zeros_get, Int.zero_add] at hg
      have e : (counts lo hi es (zeros es) l).getD j 0 = (counts lo hi es (zeros es) l)[j] := by simp [List.getD, List.getElem?_eq_getElem h2]
      rw [← hg, e]
      simp only [List.getD, List.getElem?_append_left (by omega : j < ((counts lo hi es (zeros es) l).map u32of).length), List.getElem?_map, List.getElem?_eq_getElem h2]
      rfl
    · rw [if_neg hj]
      by_cases hj2 : j < es.length + 2
      · rw [if_pos hj2]
        have : j = ((counts lo hi es (zeros es) l).map u32of).length := by omega
        rw [this]
        simp [List.getD, u32of]
      · rw [if_neg hj2]
        simp only [List.getD, List.getElem?_eq_none (by rw [hxl]; omega : ((counts lo hi es (zeros es) l).map u32of ++ [u32of (l.length : Int)]).length ≤ j), Option.getD_none]
  unfold vecV vecAt
  rw [bitsAll_get _ _ _ _ hin2, bitsAll_get _ _ _ _ hxs, hpre, hl1, hxl]
  by_cases a1 : j < es.length + 1
  · rw [if_pos (by omega), if_pos (by omega), if_pos a1, if_pos a1]
  · by_cases a2 : j < es.length + 2
    · rw [if_pos (by omega), if_pos a2, if_neg a1, if_pos a2, if_neg a1, if_pos a2]
    · by_cases a3 : j < es.length + 2 + n
      · rw [if_pos a3, if_neg a2, if_pos a3, if_neg a1, if_neg a2, if_pos a3]
      · by_cases a4 : j < es.length + 2 + 3 * n
        · rw [if_neg a3, if_pos (by omega), if_neg a1, if_neg a2, if_neg a3, if_pos a4]
        · rw [if_neg a3, if_neg (by omega), if_neg a1, if_neg a2, if_neg a3, if_neg a4]
theorem vec_length (lo hi : Int) (es l : List Int) (n : Nat) : (vecV lo hi es l n).length = es.length + 2 + 3 * n := by
  unfold vecV
  rw [bitsAll_length, bitsAll_length]
  simp only [List.length_append, List.length_map, List.length_cons, List.length_nil, counts_length, zeros_length]
  omega
theorem cB_append (lo hi : Int) (es : List Int) (j : Nat) (a b : List Int) : cB lo hi es j (a ++ b) = cB lo hi es j a + cB lo hi es j b := by simp [cB]
theorem cB_reverse (lo hi : Int) (es : List Int) (j : Nat) (a : List Int) : cB lo hi es j a.reverse = cB lo hi es j a := by simp [cB, List.sum_reverse]
theorem vecAt_append (lo hi : Int) (es a b : List Int) (n j : Nat) : vecAt lo hi es (a ++ b) n j = (vecAt lo hi es a n j + vecAt lo hi es b n j) % 4294967296 := by
  unfold vecAt
  split
  · rw [cB_append, Int.add_emod]
  · split
    · rw [List.length_append, Int.natCast_add, Int.add_emod]
    · split
      · rw [List.map_append, sumB_append, Int.add_emod]
      · split
        · rw [List.map_append, sumB_append, Int.add_emod]
        · rfl
theorem vecAt_reverse (lo hi : Int) (es a : List Int) (n j : Nat) : vecAt lo hi es a.reverse n j = vecAt lo hi es a n j := by
  unfold vecAt
  rw [cB_reverse, List.length_reverse, List.map_reverse, List.map_reverse, sumB_reverse, sumB_reverse]
theorem vec_reverse (lo hi : Int) (es a : List Int) (n : Nat) : vecV lo hi es a.reverse n = vecV lo hi es a n :=
  list_ext _ _ (by rw [vec_length, vec_length]) fun m => by rw [vec_get, vec_get, vecAt_reverse]
theorem vec_clamped (lo hi : Int) (es a b : List Int) (n : Nat) (h : a.map (clampV lo hi) = b.map (clampV lo hi)) : vecV lo hi es a n = vecV lo hi es b n := by
  have hl : a.length = b.length := by have := congrArg List.length h; simpa using this
  have hm : ∀ {β : Type} (f : Int → β), a.map (fun x => f (clampV lo hi x)) = b.map (fun x => f (clampV lo hi x)) := by
    intro β f
    have := congrArg (List.map f) h
    simpa [List.map_map, Function.comp_def] using this
  refine list_ext _ _ (by rw [vec_length, vec_length]) fun m => ?_
  rw [vec_get, vec_get]
  unfold vecAt cB
  rw [hm (fun y => if binN es y = m then (1 : Int) else 0), hl, show a.map (plW lo hi) = b.map (plW lo hi) from hm (fun y => ((0 : Int), y - lo)), show a.map (sqW lo hi) = b.map (sqW lo hi) from hm (fun y => (wide_Mul.f (y - lo) (y - lo)).getD (0, 0))]
theorem cells_l0 (a : List Int) (hm : a.length ≤ 9223372036854775806) : ∀ (d i : Nat), i + d = a.length → Ev (fun k => offertoryref01_Cells.l0 k a a (i : Int)) true := by
  intro d
  induction d with
  | zero =>
    intro i hi
    refine Ev.succ ?_
    simp only [offertoryref01_Cells.l0]
    refine Ev.neg (by omega) (Ev.some_ rfl)
  | succ d ih =>
    intro i hi
    refine Ev.succ ?_
    simp only [offertoryref01_Cells.l0]
    refine Ev.pos (by omega) (Ev.pos (by omega) (Ev.pos (by omega) (Ev.pos (by first | rfl | trivial) ?_)))
    rw [w64 (by omega)]
    exact ih (i + 1) (by omega)
theorem cells_f (a : List Int) (hm : a.length ≤ 9223372036854775806) : Ev (fun k => offertoryref01_Cells.f k a a) true := by
  unfold offertoryref01_Cells.f
  exact Ev.pos rfl (cells_l0 a hm a.length 0 (by omega))
theorem bits_some (lo hi most : Int) (es : List Int) : ∃ n, soundE lo hi most es = 0 → IsBits lo hi n := by
  by_cases h : soundE lo hi most es = 0
  · obtain ⟨a, b, c, d, _⟩ := sound0 h
    obtain ⟨n, hn⟩ := isBits_exists c d
    exact ⟨n, fun _ => hn⟩
  · exact ⟨0, fun h' => absurd h' h⟩
end Go.Proofs.Ythbiijhjcoakfaa.Plain
