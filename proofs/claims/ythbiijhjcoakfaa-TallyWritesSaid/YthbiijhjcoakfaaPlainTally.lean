/- What the vector of any samples has at each place. -/
import Derived.Test.YthbiijhjcoakfaaPlainTallyLaw
import Derived.Test.YthbiijhjcoakfaaPlainBinCore
import Derived.Test.YthbiijhjcoakfaaPlainPlace
import Derived.Laws.Bits64b
namespace Go.Proofs.Ythbiijhjcoakfaa.Plain
open Go.RowKit Go.Proofs.Ythbiijhjcoakfaa.PAll Go.Proofs.Ythbiijhjcoakfaa.Opn Go.Proofs.Ythbiijhjcoakfaa.Base Go.Proofs.YthbiijhjcoakfaaW.PrintWords Go.Proofs.YthbiijhjcoakfaaW.PrintLast Go.Proofs.YthbiijhjcoakfaaW.PrintMore
set_option linter.unusedVariables false
set_option linter.unusedSimpArgs false

/-! ### the bits, place by place -/
theorem bumpU_length (out : List Int) (j : Nat) (d : Int) : (bumpU out j d).length = out.length := by simp [bumpU]
theorem bumpU_get (out : List Int) (j m : Nat) (d : Int) (hj : j < out.length) : (bumpU out j d).getD m 0 = if m = j then (out.getD j 0 + d) % 4294967296 else out.getD m 0 := by
  unfold bumpU
  by_cases h : m = j
  · subst h; simp [List.getD, hj]
  · rw [if_neg h]; simp [List.getD, List.getElem?_set, Ne.symm h]
theorem fillB_get (frm : Nat) (x : Int) : ∀ (i : Nat) (out : List Int) (m : Nat), frm + i ≤ out.length → (fillB frm x i out).getD m 0 = if frm ≤ m ∧ m < frm + i then (out.getD m 0 + loBit x (m - frm)) % 4294967296 else out.getD m 0
  | 0, out, m, _ => by rw [if_neg (by omega)]; rfl
  | i + 1, out, m, h => by
    have ih := fillB_get frm x i out
    have e : fillB frm x (i + 1) out = bumpU (fillB frm x i out) (frm + i) (loBit x i) := rfl
    rw [e, bumpU_get _ _ _ _ (by rw [fillB_length]; omega)]
    by_cases hm : m = frm + i
    · subst hm
      rw [if_pos rfl, if_pos (by omega), ih _ (by omega), if_neg (by omega), show frm + i - frm = i by omega]
    · rw [if_neg hm, ih _ (by omega)]
      by_cases hr : frm ≤ m ∧ m < frm + i
      · rw [if_pos hr, if_pos (by omega)]
      · rw [if_neg hr, if_neg (by omega)]
/-- A bit of a wide number. -/
def bitAt (y : Int × Int) (i : Nat) : Int := if i < 64 then loBit y.2 i else loBit y.1 (i - 64)
theorem oneB_get (frm n : Nat) (y : Int × Int) (out : List Int) (m : Nat) (h : frm + n ≤ out.length) : (oneB frm n y out).getD m 0 = if frm ≤ m ∧ m < frm + n then (out.getD m 0 + bitAt y (m - frm)) % 4294967296 else out.getD m 0 := by
  unfold oneB bitAt
  rcases Nat.le_total n 64 with hn | hn
  · rw [show n - 64 = 0 by omega, Nat.min_eq_left hn]
    show (fillB frm y.2 n out).getD m 0 = _
    rw [fillB_get _ _ _ _ _ h]
    by_cases hr : frm ≤ m ∧ m < frm + n
    · rw [if_pos hr, if_pos hr, if_pos (by omega)]
    · rw [if_neg hr, if_neg hr]
  · rw [Nat.min_eq_right hn, fillB_get _ _ _ _ _ (by rw [fillB_length]; omega), fillB_get _ _ _ _ _ (by omega)]
    by_cases h1 : frm ≤ m ∧ m < frm + 64
    · rw [if_neg (by omega), if_pos h1, if_pos (by omega), if_pos (by omega)]
    · by_cases h2 : frm + 64 ≤ m ∧ m < frm + n
      · rw [if_pos (by omega), if_neg h1, if_pos (by omega), if_neg (by omega), show m - (frm + 64) = m - frm - 64 by omega]
      · rw [if_neg (by omega), if_neg h1, if_neg (by omega)]
def sumB (ys : List (Int × Int)) (i : Nat) : Int := (ys.map fun y => bitAt y i).sum
theorem foldB_get (frm n : Nat) : ∀ (ys : List (Int × Int)) (out : List Int) (m : Nat), frm + n ≤ out.length → (0 ≤ out.getD m 0 ∧ out.getD m 0 < 4294967296) →
    (ys.foldl (fun out x => oneB frm n x out) out).getD m 0 = if frm ≤ m ∧ m < frm + n then (out.getD m 0 + sumB ys (m - frm)) % 4294967296 else out.getD m 0
  | [], out, m, h, hr => by
    have : sumB [] (m - frm) = 0 := rfl
    rw [this, Int.add_zero]
    split
    · show out.getD m 0 = _
      omega
    · rfl
  | y :: ys, out, m, h, hr => by
    have g := oneB_get frm n y out m h
    have hs : sumB (y :: ys) (m - frm) = bitAt y (m - frm) + sumB ys (m - frm) := by simp [sumB]
    rw [List.foldl_cons, foldB_get frm n ys _ m (by rw [oneB_length]; exact h) (by rw [g]; split <;> omega), g, hs]
    split
    · rw [Int.emod_add_emod, Int.add_assoc]
    · rfl
theorem bitsAll_get (xs : List Int) (ys : List (Int × Int)) (n m : Nat) (hx : ∀ v ∈ xs, 0 ≤ v ∧ v < 4294967296) :
    (bitsAll xs ys n).getD m 0 = if m < xs.length then xs.getD m 0 else if m < xs.length + n then sumB ys (m - xs.length) % 4294967296 else 0 := by
  have h0 : (xs ++ List.replicate n (0 : Int)).getD m 0 = if m < xs.length then xs.getD m 0 else 0 := by
    by_cases h : m < xs.length
    · rw [if_pos h]; simp [List.getD, List.getElem?_append_left h]
    · rw [if_neg h]
      by_cases h2 : m - xs.length < n
      · simp [List.getD, List.getElem?_append_right (Nat.not_lt.1 h), h2]
      · simp [List.getD, List.getElem?_append_right (Nat.not_lt.1 h), h2]
  have hr : 0 ≤ (xs ++ List.replicate n (0 : Int)).getD m 0 ∧ (xs ++ List.replicate n (0 : Int)).getD m 0 < 4294967296 := by
    rw [h0]
    split
    · rename_i h
      have : xs.getD m 0 = xs[m] := by simp [List.getD, List.getElem?_eq_getElem h]
      rw [this]
      exact hx _ (List.getElem_mem h)
    · omega
  unfold bitsAll
  rw [foldB_get _ _ _ _ _ (by simp) hr, h0]
  by_cases h : m < xs.length
  · rw [if_neg (by omega), if_pos h, if_pos h]
  · rw [if_neg h, if_neg h]
    by_cases h2 : m < xs.length + n
    · rw [if_pos (by omega), if_pos h2, Int.zero_add]
    · rw [if_neg (by omega), if_neg h2]
theorem bitsAll_in (xs : List Int) (ys : List (Int × Int)) (n : Nat) (hx : ∀ v ∈ xs, 0 ≤ v ∧ v < 4294967296) : ∀ v ∈ bitsAll xs ys n, 0 ≤ v ∧ v < 4294967296 := by
  intro v hv
  obtain ⟨m, hm, rfl⟩ := List.getElem_of_mem hv
  have g := bitsAll_get xs ys n m hx
  have : (bitsAll xs ys n).getD m 0 = (bitsAll xs ys n)[m] := by simp [List.getD, List.getElem?_eq_getElem hm]
  rw [← this, g]
  split
  · rename_i h
    have : xs.getD m 0 = xs[m] := by simp [List.getD, List.getElem?_eq_getElem h]
    rw [this]
    exact hx _ (List.getElem_mem h)
  · split <;> omega
theorem list_ext (a b : List Int) (hl : a.length = b.length) (h : ∀ m, a.getD m 0 = b.getD m 0) : a = b := by
  apply List.ext_getElem hl
  intro m h1 h2
  have := h m
  simpa [List.getD, List.getElem?_eq_getElem h1, List.getElem?_eq_getElem h2] using this
theorem loBit_in (x : Int) (i : Nat) : 0 ≤ loBit x i ∧ loBit x i ≤ 1 := by
  unfold loBit
  generalize x / 2 ^ i = a
  show 0 ≤ IntKind.u64.wrap ((BitVec.ofInt 64 a &&& BitVec.ofInt 64 1).toNat : Int) ∧ IntKind.u64.wrap ((BitVec.ofInt 64 a &&& BitVec.ofInt 64 1).toNat : Int) ≤ 1
  have h : (BitVec.ofInt 64 a &&& BitVec.ofInt 64 1).toNat ≤ 1 := by
    rw [BitVec.toNat_and]
    exact Nat.le_trans Nat.and_le_right (by decide)
  rw [IntKind.wrap_u64]
  omega
theorem bitAt_in (y : Int × Int) (i : Nat) : 0 ≤ bitAt y i ∧ bitAt y i ≤ 1 := by unfold bitAt; split <;> exact loBit_in _ _
theorem sumB_in (ys : List (Int × Int)) (i : Nat) : 0 ≤ sumB ys i ∧ sumB ys i ≤ ys.length := by
  induction ys with
  | nil => exact ⟨Int.le_refl _, Int.le_refl _⟩
  | cons y ys ih =>
    have hs : sumB (y :: ys) i = bitAt y i + sumB ys i := by simp [sumB]
    have hb := bitAt_in y i
    rw [hs, List.length_cons]
    omega
theorem sumB_append (a b : List (Int × Int)) (i : Nat) : sumB (a ++ b) i = sumB a i + sumB b i := by simp [sumB]
theorem sumB_reverse (a : List (Int × Int)) (i : Nat) : sumB a.reverse i = sumB a i := by simp [sumB, List.sum_reverse]

/-! ### what Encode answers -/
def plW (lo hi x : Int) : Int × Int := (0, clampV lo hi x - lo)
def sqW (lo hi x : Int) : Int × Int := (wide_Mul.f (clampV lo hi x - lo) (clampV lo hi x - lo)).getD (0, 0)
def vecV (lo hi : Int) (es l : List Int) (n : Nat) : List Int :=
  bitsAll (bitsAll ((counts lo hi es (zeros es) l).map u32of ++ [u32of l.length]) (l.map (plW lo hi)) n) (l.map (sqW lo hi)) (2 * n)
theorem encPl_f (lo hi most : Int) (es : List Int) (hs : soundE lo hi most es = 0) (hl : es.length ≤ 9223372036854775806) (h1 : -9223372036854775808 ≤ lo ∧ lo ≤ 9223372036854775807) (h2 : -9223372036854775808 ≤ hi ∧ hi ≤ 9223372036854775807) :
    ∀ l : List Int, Ev (fun k => encPl k lo hi most es l) (l.map (plW lo hi), l.map (sqW lo hi))
  | [] => Ev.now _
  | x :: r => by
    have ih := encPl_f lo hi most es hs hl h1 h2 r
    have hp := place_f lo hi most es x hl h1 h2
    rw [if_pos hs] at hp
    simp only [encPl]
    refine Ev.bind hp ?_
    refine Ev.bind0 (a := sqW lo hi x) ?_ (Ev.bind ih (Ev.now _))
    rfl
theorem encode_f (lo hi most n : Int) (es l : List Int) (hn : soundE lo hi most es = 0 → IsBits lo hi n) (hl : es.length ≤ 9223372036854775806) (h1 : -9223372036854775808 ≤ lo ∧ lo ≤ 9223372036854775807) (h2 : -9223372036854775808 ≤ hi ∧ hi ≤ 9223372036854775807) (hm : l.length ≤ 100000) :
    Ev (fun k => tally_Encode.f k lo hi most es l) (if soundE lo hi most es = 0 then (if (l.length : Int) > most then ([], 9) else (vecV lo hi es l n.toNat, 0)) else ([], soundE lo hi most es)) := by
  unfold tally_Encode.f
  refine Ev.bind (count_f lo hi most es l hl h1 h2) ?_
  by_cases h : soundE lo hi most es = 0
  · simp only [h, if_true]
    by_cases hc : (l.length : Int) > most
    · simp only [hc, if_true]
      exact Ev.neg (by decide) (Ev.now _)
    · simp only [hc, if_false]
      obtain ⟨a, b, c, d, _, _, _, e⟩ := sound0 h
      have hb := hn h
      have h40 := hb.le40 d
      have h01 := hb.1
      have hbits := bits_f lo hi most n es hn hl h1 h2
      simp only [h, if_true] at hbits
      refine Ev.pos (by first | rfl | trivial) (Ev.bind (encPl_f lo hi most es h hl h1 h2 l) (Ev.bind hbits (Ev.pos ?_ (Ev.now _))))
      rw [counts_length, zeros_length]
      omega
  · simp only [h, if_false]
    first | exact Ev.now _ | exact Ev.neg h (Ev.now _)
end Go.Proofs.Ythbiijhjcoakfaa.Plain
