/- What the document's vector of any samples has at each place. -/
import Derived.Test.YthbiijhjcoakfaaPlainBinFind
import Derived.Test.YthbiijhjcoakfaaPlainBigMul
import Derived.Test.YthbiijhjcoakfaaPlainBits
namespace Go.Proofs.Ythbiijhjcoakfaa.Plain
open Go.RowKit Go.Proofs.Ythbiijhjcoakfaa.PAll Go.Proofs.Ythbiijhjcoakfaa.Opn Go.Proofs.Ythbiijhjcoakfaa.Base Go.Proofs.YthbiijhjcoakfaaW.PrintWords Go.Proofs.YthbiijhjcoakfaaW.PrintLast Go.Proofs.YthbiijhjcoakfaaW.PrintMore
set_option linter.unusedVariables false
set_option linter.unusedSimpArgs false
theorem bmpE_get (out : List Int) (j m : Nat) (d : Int) (hj : j < out.length) : (bmpE out j d).getD m 0 = if m = j then (out.getD j 0 + d) % 4294967296 else out.getD m 0 := by
  unfold bmpE
  by_cases h : m = j
  · subst h; simp [List.getD, hj]
  · rw [if_neg h]; simp [List.getD, List.getElem?_set, Ne.symm h]
theorem plE_get (at_ : Nat) (n : Int) : ∀ (i : Nat) (out : List Int) (m : Nat), at_ + i ≤ out.length → (plE at_ n i out).getD m 0 = if at_ ≤ m ∧ m < at_ + i then (out.getD m 0 + n / 2 ^ (m - at_) % 2) % 4294967296 else out.getD m 0
  | 0, out, m, _ => by rw [if_neg (by omega)]; rfl
  | i + 1, out, m, h => by
    have ih := plE_get at_ n i out
    have e : plE at_ n (i + 1) out = bmpE (plE at_ n i out) (at_ + i) (n / 2 ^ i % 2) := rfl
    rw [e, bmpE_get _ _ _ _ (by rw [plE_length]; omega)]
    by_cases hm : m = at_ + i
    · subst hm
      rw [if_pos rfl, if_pos (by omega), ih _ (by omega), if_neg (by omega), show at_ + i - at_ = i by omega]
    · rw [if_neg hm, ih _ (by omega)]
      by_cases hr : at_ ≤ m ∧ m < at_ + i
      · rw [if_pos hr, if_pos (by omega)]
      · rw [if_neg hr, if_neg (by omega)]
theorem sqE_get (at_ : Nat) (s : List Int) : ∀ (i : Nat) (out : List Int) (m : Nat), at_ + i ≤ out.length → (sqE at_ s i out).getD m 0 = if at_ ≤ m ∧ m < at_ + i then (out.getD m 0 + s.getD ((m - at_) / 16) 0 / 2 ^ ((m - at_) % 16) % 2) % 4294967296 else out.getD m 0
  | 0, out, m, _ => by rw [if_neg (by omega)]; rfl
  | i + 1, out, m, h => by
    have ih := sqE_get at_ s i out
    have e : sqE at_ s (i + 1) out = bmpE (sqE at_ s i out) (at_ + i) (s.getD (i / 16) 0 / 2 ^ (i % 16) % 2) := rfl
    rw [e, bmpE_get _ _ _ _ (by rw [sqE_length]; omega)]
    by_cases hm : m = at_ + i
    · subst hm
      rw [if_pos rfl, if_pos (by omega), ih _ (by omega), if_neg (by omega), show at_ + i - at_ = i by omega]
    · rw [if_neg hm, ih _ (by omega)]
      by_cases hr : at_ ≤ m ∧ m < at_ + i
      · rw [if_pos hr, if_pos (by omega)]
      · rw [if_neg hr, if_neg (by omega)]
/-- The digits of a number, as a list; a bit of it. -/
def digsL (v : Int) : List Int := [bigD v 0, bigD v 1, bigD v 2, bigD v 3, bigD v 4, bigD v 5, bigD v 6, bigD v 7]
theorem digsL_get (v : Int) (i : Nat) (h : i < 8) : (digsL v).getD i 0 = bigD v i := by
  match i, h with
  | 0, _ => rfl
  | 1, _ => rfl
  | 2, _ => rfl
  | 3, _ => rfl
  | 4, _ => rfl
  | 5, _ => rfl
  | 6, _ => rfl
  | 7, _ => rfl
theorem bit16 (u : Int) (r : Nat) (h : r < 16) : u % 65536 / 2 ^ r % 2 = u / 2 ^ r % 2 := by
  match r, h with
  | 0, _ => show u % 65536 / 1 % 2 = u / 1 % 2; omega
  | 1, _ => show u % 65536 / 2 % 2 = u / 2 % 2; omega
  | 2, _ => show u % 65536 / 4 % 2 = u / 4 % 2; omega
  | 3, _ => show u % 65536 / 8 % 2 = u / 8 % 2; omega
  | 4, _ => show u % 65536 / 16 % 2 = u / 16 % 2; omega
  | 5, _ => show u % 65536 / 32 % 2 = u / 32 % 2; omega
  | 6, _ => show u % 65536 / 64 % 2 = u / 64 % 2; omega
  | 7, _ => show u % 65536 / 128 % 2 = u / 128 % 2; omega
  | 8, _ => show u % 65536 / 256 % 2 = u / 256 % 2; omega
  | 9, _ => show u % 65536 / 512 % 2 = u / 512 % 2; omega
  | 10, _ => show u % 65536 / 1024 % 2 = u / 1024 % 2; omega
  | 11, _ => show u % 65536 / 2048 % 2 = u / 2048 % 2; omega
  | 12, _ => show u % 65536 / 4096 % 2 = u / 4096 % 2; omega
  | 13, _ => show u % 65536 / 8192 % 2 = u / 8192 % 2; omega
  | 14, _ => show u % 65536 / 16384 % 2 = u / 16384 % 2; omega
  | 15, _ => show u % 65536 / 32768 % 2 = u / 32768 % 2; omega
  | r + 16, h => exact absurd h (by omega)
theorem pow16 (n : Nat) : (65536 : Int) ^ n = 2 ^ (16 * n) := by rw [Int.pow_mul]; rfl
theorem digs_bit (v : Int) (i : Nat) (h : i < 128) : (digsL v).getD (i / 16) 0 / 2 ^ (i % 16) % 2 = v / 2 ^ i % 2 := by
  rw [digsL_get _ _ (by omega)]
  unfold bigD
  rw [bit16 _ _ (by omega), Int.ediv_ediv_of_nonneg (Int.le_of_lt (Int.pow_pos (by decide))), pow16, ← Int.pow_add, show 16 * (i / 16) + i % 16 = i by omega]
/-- What a sample gives at a place. -/
def conE (lo hi : Int) (es : List Int) (b : Nat) (m : Nat) (x : Int) : Int :=
  if m < es.length + 1 then (if binN es (clampV lo hi x) = m then 1 else 0) else if m < es.length + 2 then 1
  else if m < es.length + 2 + b then (clampV lo hi x - lo) / 2 ^ (m - (es.length + 2)) % 2
  else if m < es.length + 2 + 3 * b then (clampV lo hi x - lo) * (clampV lo hi x - lo) / 2 ^ (m - (es.length + 2 + b)) % 2 else 0
theorem conE_in (lo hi : Int) (es : List Int) (b m : Nat) (x : Int) : 0 ≤ conE lo hi es b m x ∧ conE lo hi es b m x ≤ 1 := by
  unfold conE
  generalize (clampV lo hi x - lo) / 2 ^ (m - (es.length + 2)) = p
  generalize (clampV lo hi x - lo) * (clampV lo hi x - lo) / 2 ^ (m - (es.length + 2 + b)) = q
  repeat' split
  all_goals omega
theorem encOne_get (lo hi : Int) (es : List Int) (b : Nat) (x : Int) (out : List Int) (m : Nat) (hb : b ≤ 64) (hl : out.length = es.length + 2 + 3 * b) (hr : 0 ≤ out.getD m 0 ∧ out.getD m 0 < 4294967296) :
    (encOne (es.length + 2) b (binN es (clampV lo hi x)) (clampV lo hi x - lo) (digsL ((clampV lo hi x - lo) * (clampV lo hi x - lo))) out).getD m 0 = (out.getD m 0 + conE lo hi es b m x) % 4294967296 := by
  have hbn := binN_le es (clampV lo hi x)
  unfold encOne conE
  rw [sqE_get _ _ _ _ _ (by rw [plE_length, bmpE_length, bmpE_length]; omega), plE_get _ _ _ _ _ (by rw [bmpE_length, bmpE_length]; omega), bmpE_get _ _ _ _ (by rw [bmpE_length]; omega), bmpE_get _ _ _ _ (by omega), bmpE_get _ _ _ _ (by omega)]
  by_cases h1 : m < es.length + 1
  · rw [if_neg (by omega), if_neg (by omega), if_neg (by omega), if_pos h1]
    by_cases h2 : m = binN es (clampV lo hi x)
    · rw [if_pos h2, if_pos h2.symm, ← h2]
    · rw [if_neg h2, if_neg (fun e => h2 e.symm)]; omega
  · rw [if_neg h1]
    by_cases h2 : m < es.length + 2
    · rw [if_neg (by omega), if_neg (by omega), if_pos (by omega), if_neg (by omega), if_pos h2, show es.length + 2 - 1 = m by omega]
    · rw [if_neg h2]
      by_cases h3 : m < es.length + 2 + b
      · rw [if_neg (by omega), if_pos (by omega), if_neg (by omega), if_neg (by omega), if_pos h3]
      · rw [if_neg h3]
        by_cases h4 : m < es.length + 2 + 3 * b
        · rw [if_pos (by omega), if_neg (by omega), if_neg (by omega), if_neg (by omega), if_pos h4, digs_bit _ _ (by omega)]
        · rw [if_neg (by omega), if_neg (by omega), if_neg (by omega), if_neg (by omega), if_neg h4]; omega
def encL (lo hi : Int) (es : List Int) (b : Nat) (l out : List Int) : List Int :=
  l.foldl (fun out x => encOne (es.length + 2) b (binN es (clampV lo hi x)) (clampV lo hi x - lo) (digsL ((clampV lo hi x - lo) * (clampV lo hi x - lo))) out) out
/-- What all samples give at a place. -/
def conS (lo hi : Int) (es : List Int) (b : Nat) (l : List Int) (m : Nat) : Int := (l.map (conE lo hi es b m)).sum
theorem conS_cons (lo hi : Int) (es : List Int) (b : Nat) (x : Int) (l : List Int) (m : Nat) : conS lo hi es b (x :: l) m = conE lo hi es b m x + conS lo hi es b l m := by simp [conS]
theorem conS_in (lo hi : Int) (es : List Int) (b : Nat) (m : Nat) : ∀ l, 0 ≤ conS lo hi es b l m ∧ conS lo hi es b l m ≤ l.length
  | [] => by simp [conS]
  | x :: l => by
    have := conS_in lo hi es b m l
    have := conE_in lo hi es b m x
    rw [conS_cons, List.length_cons]
    omega
theorem encL_length (lo hi : Int) (es : List Int) (b : Nat) : ∀ (l out : List Int), (encL lo hi es b l out).length = out.length
  | [], out => rfl
  | x :: l, out => by
    show (encL lo hi es b l _).length = _
    rw [encL_length lo hi es b l, encOne_length]
theorem encL_get (lo hi : Int) (es : List Int) (b : Nat) (hb : b ≤ 64) : ∀ (l out : List Int) (m : Nat), out.length = es.length + 2 + 3 * b → (∀ m, 0 ≤ out.getD m 0 ∧ out.getD m 0 < 4294967296) →
    (encL lo hi es b l out).getD m 0 = (out.getD m 0 + conS lo hi es b l m) % 4294967296
  | [], out, m, _, hr => by
    have := hr m
    show out.getD m 0 = (out.getD m 0 + 0) % 4294967296
    omega
  | x :: l, out, m, hl, hr => by
    have g := fun m => encOne_get lo hi es b x out m hb hl (hr m)
    show (encL lo hi es b l (encOne _ _ _ _ _ out)).getD m 0 = _
    rw [encL_get lo hi es b hb l _ m (by rw [encOne_length]; exact hl) (fun m => by rw [g m]; omega), g m, conS_cons, Int.emod_add_emod, Int.add_assoc]
def vecE (lo hi : Int) (es : List Int) (b : Nat) (l : List Int) : List Int := encL lo hi es b l (List.replicate (es.length + 2 + 3 * b) 0)
theorem vecE_length (lo hi : Int) (es : List Int) (b : Nat) (l : List Int) : (vecE lo hi es b l).length = es.length + 2 + 3 * b := by unfold vecE; rw [encL_length, List.length_replicate]
theorem zero_get (n m : Nat) : (List.replicate n (0 : Int)).getD m 0 = 0 := by
  by_cases h : m < n <;> simp [List.getD, h]
theorem vecE_get (lo hi : Int) (es : List Int) (b : Nat) (hb : b ≤ 64) (l : List Int) (m : Nat) : (vecE lo hi es b l).getD m 0 = conS lo hi es b l m % 4294967296 := by
  unfold vecE
  rw [encL_get lo hi es b hb l _ m List.length_replicate (fun m => by rw [zero_get]; omega), zero_get, Int.zero_add]
theorem encAll_f (lo hi most : Int) (es : List Int) (b : Nat) (hs : soundE lo hi most es = 0) : ∀ (l out : List Int), out.length = es.length + 2 + 3 * b → Ev (fun k => encAll k lo hi most es b (es.length + 2) l out) (encL lo hi es b l out)
  | [], out, _ => Ev.now _
  | x :: r, out, hl => by
    obtain ⟨a1, a2, a3, a4, a5, a6, a7, a8⟩ := sound0 hs
    have hf := refBin_f lo hi most es x a3 a8
    have hcv := clampV_in a3 x
    have hbn := binN_le es (clampV lo hi x)
    have hw : IntKind.u64.wrap (wrap64 (clampV lo hi x - lo)) = clampV lo hi x - lo := by rw [w64 (by omega), wu64 (by omega)]
    have hof := of_f (hi := 0) (lo := clampV lo hi x - lo) (by unfold W64; omega) (by unfold W64; omega)
    rw [show wv 0 (clampV lo hi x - lo) = clampV lo hi x - lo by unfold wv; omega] at hof
    have ih := encAll_f lo hi most es b hs r (encOne (es.length + 2) b (binN es (clampV lo hi x)) (clampV lo hi x - lo) (digsL ((clampV lo hi x - lo) * (clampV lo hi x - lo))) out) (by rw [encOne_length]; exact hl)
    simp only [encAll]
    refine Ev.bind (a := encOne (es.length + 2) b (binN es (clampV lo hi x)) (clampV lo hi x - lo) (digsL ((clampV lo hi x - lo) * (clampV lo hi x - lo))) out) ?_ ih
    simp only [encStep]
    refine Ev.bind hf (Ev.bind0 (refClamp_f a3 most es x) (Ev.bind0 (by rw [hw]; exact hof) (Ev.bind0 (bigMul_f _ _) ?_)))
    refine Ev.pos ⟨by omega, by omega⟩ (Ev.some_ ?_)
    rw [hw, Int.toNat_natCast]
    rfl
theorem refEncode_f (lo hi most n : Int) (es l : List Int) (hs : soundE lo hi most es = 0) (hn : IsBits lo hi n) (hl : l.length ≤ 100000)
    (hlen : Ev (fun k => offertoryref09_Len.f k lo hi most es) ((es.length : Int) + 2 + 3 * n)) : Ev (fun k => offertoryref09_Encode.f k lo hi most es l) (vecE lo hi es n.toNat l) := by
  obtain ⟨a1, a2, a3, a4, a5, a6, a7, a8⟩ := sound0 hs
  have h40 := hn.le40 a4
  have h01 := hn.1
  unfold offertoryref09_Encode.f
  refine Ev.bind (refBits_f lo hi most n es hn a3 a4) (Ev.bind hlen (Ev.pos ⟨by omega, by omega, by omega, rfl, hl⟩ ?_))
  rw [show ((es.length : Int) + 2 + 3 * n).toNat = es.length + 2 + 3 * n.toNat by omega]
  exact encAll_f lo hi most es n.toNat hs l _ List.length_replicate
end Go.Proofs.Ythbiijhjcoakfaa.Plain
