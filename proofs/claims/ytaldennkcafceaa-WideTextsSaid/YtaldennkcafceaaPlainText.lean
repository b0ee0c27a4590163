/- Both texts are the number's digits in tens. -/
import Derived.Test.YtaldennkcafceaaPlainTextBase
import Derived.Test.YtaldennkcafceaaPlainDiv
namespace Go.Proofs.Ytaldennkcafceaa.Plain
open Go.RowKit Go.Proofs.Ytaldennkcafceaa.PAll Go.Proofs.Ytaldennkcafceaa.Opn Go.Proofs.Ytaldennkcafceaa.Base Go.Proofs.YtaldennkcafceaaW.PrintWords Go.Proofs.YtaldennkcafceaaW.PrintLast Go.Proofs.YtaldennkcafceaaW.PrintMore
set_option linter.unusedVariables false
set_option linter.unusedSimpArgs false
/-- The digits of a number of so many places, the last one first. -/
def dl : Nat → Int → List Int
  | 0, _ => []
  | n + 1, v => (48 + v % 10) :: (if 0 < v / 10 then dl n (v / 10) else [])
theorem dl_len : ∀ (n : Nat) (v : Int), (dl n v).length ≤ n
  | 0, _ => Nat.le_refl _
  | n + 1, v => by
    unfold dl
    have := dl_len n (v / 10)
    split
    · rw [List.length_cons]; omega
    · simp
theorem pow10 (n : Nat) : (10 : Int) ^ (n + 1) = 10 ^ n * 10 := rfl
theorem lt10 {v : Int} {n : Nat} (h : v < 10 ^ (n + 1)) : v / 10 < 10 ^ n := by
  rw [pow10] at h
  omega
theorem tmod10 {x : Int} (h : 0 ≤ x) : Int.tmod x 10 = x % 10 := Int.tmod_eq_emod_of_nonneg h
theorem tenth_f {v : Int} (h : 0 ≤ v ∧ v < 340282366920938463463374607431768211456) : Ev (fun k => wide_tenth.f k (wd v).1 (wd v).2) ((wd (v / 10)).1, (wd (v / 10)).2, v % 10) := by
  obtain ⟨h1, h2⟩ := wd_in v
  unfold wide_tenth.f
  have hd := div64_f (hi := (wd v).1 % 10) (lo := (wd v).2) (y := 10) (by unfold W64 at h1; omega) (by omega) h2
  rw [tmod10 h1.1]
  refine Ev.bind hd (Ev.some_ ?_)
  rw [Int.tdiv_eq_ediv_of_nonneg h1.1, wu64 (by unfold W64 at h1; omega)]
  simp only [wd]
  obtain ⟨H, eH⟩ : ∃ H, H = v / 18446744073709551616 := ⟨_, rfl⟩
  obtain ⟨L, eL⟩ : ∃ L, L = v % 18446744073709551616 := ⟨_, rfl⟩
  rw [← eH, ← eL, show H % 18446744073709551616 = H by omega]
  have hv : v = H * 18446744073709551616 + L := by omega
  obtain ⟨a, ea⟩ : ∃ a, a = H / 10 := ⟨_, rfl⟩
  obtain ⟨r, er⟩ : ∃ r, r = H % 10 := ⟨_, rfl⟩
  obtain ⟨q, eq⟩ : ∃ q, q = (L + r * 18446744073709551616) / 10 := ⟨_, rfl⟩
  obtain ⟨s, es⟩ : ∃ s, s = (L + r * 18446744073709551616) % 10 := ⟨_, rfl⟩
  rw [← er, ← eq, ← es, ← ea]
  have hH : 0 ≤ H ∧ H ≤ 18446744073709551615 := by omega
  have hL : 0 ≤ L ∧ L ≤ 18446744073709551615 := by omega
  have hq : 0 ≤ q ∧ q ≤ 18446744073709551615 := by omega
  have ha : 0 ≤ a ∧ a ≤ 18446744073709551615 := by omega
  have hs : 0 ≤ s ∧ s ≤ 9 := by omega
  have h10 : v = 10 * (a * 18446744073709551616 + q) + s := by omega
  have hd : v / 10 = a * 18446744073709551616 + q := by clear eH eL ea er eq es; omega
  have hm : v % 10 = s := by clear eH eL ea er eq es; omega
  rw [hd, hm]
  clear eH eL ea er eq es hd hm h10 hv
  refine Prod.ext ?_ (Prod.ext ?_ (show s % 256 = s by omega))
  · show a = (a * 18446744073709551616 + q) / 18446744073709551616 % 18446744073709551616
    omega
  · show q = (a * 18446744073709551616 + q) % 18446744073709551616
    omega
theorem tail10 (n : Nat) (v : Int) (xs : List Int) : (xs ++ [48 + v % 10]) ++ (if 0 < v / 10 then dl n (v / 10) else []) = xs ++ dl (n + 1) v := by
  rw [List.append_assoc]
  rfl
theorem rev_l0 (n : Nat) (zs : List Int) (hz : zs.length = n) (hn : n ≤ 1000) : ∀ (d i j : Nat) (xs : List Int), j - i ≤ d → xs.length = n → i + j + 1 = n → (∀ t, t < n → (i ≤ t ∧ t ≤ j → zs.getD t 0 = xs.getD (n - 1 - t) 0) ∧ (¬ (i ≤ t ∧ t ≤ j) → zs.getD t 0 = xs.getD t 0)) →
    Ev (fun k => slices_Reverse_byte_byte.l0 k xs (i : Int) (j : Int)) zs := by
  intro d
  induction d with
  | zero =>
    intro i j xs hd hx hij hr
    refine Ev.succ ?_
    simp only [slices_Reverse_byte_byte.l0]
    refine Ev.neg (by omega) (Ev.some_ ?_)
    refine List.ext_getElem (by omega) fun t h1 h2 => ?_
    have h := hr t (by omega)
    by_cases hc : i ≤ t ∧ t ≤ j
    · have e := h.1 hc
      rw [show n - 1 - t = t by omega] at e
      simpa [List.getD, h1, h2] using e.symm
    · have e := h.2 hc
      simpa [List.getD, h1, h2] using e.symm
  | succ d ih =>
    intro i j xs hd hx hij hr
    refine Ev.succ ?_
    simp only [slices_Reverse_byte_byte.l0]
    refine Ev.if_ (fun hlt => ?_) (fun hge => ?_)
    · refine Ev.pos (by omega) (Ev.pos (by omega) (Ev.pos (by omega) (Ev.pos (by omega) ?_)))
      rw [w64 (by omega), w64 (by omega), Int.toNat_natCast, Int.toNat_natCast, rd_nat, rd_nat, show (i : Int) + 1 = ((i + 1 : Nat) : Int) by omega, show (j : Int) - 1 = ((j - 1 : Nat) : Int) by omega]
      refine ih (i + 1) (j - 1) _ (by omega) (by simp [hx]) (by omega) fun t ht => ?_
      have hg : ∀ s, s < n → (((xs.set i (xs.getD j 0)).set j (xs.getD i 0)).getD s 0) = if s = j then xs.getD i 0 else if s = i then xs.getD j 0 else xs.getD s 0 := fun s hs => by
        by_cases e1 : s = j
        · subst e1
          simp [List.getD, hx, hs]
        · rw [if_neg e1]
          by_cases e2 : s = i
          · subst e2
            simp only [List.getD]
            rw [List.getElem?_set_ne (Ne.symm e1)]
            simp [hx, hs]
          · rw [if_neg e2]
            simp only [List.getD]
            rw [List.getElem?_set_ne (Ne.symm e1), List.getElem?_set_ne (Ne.symm e2)]
      refine ⟨fun hc => ?_, fun hc => ?_⟩
      · rw [hg _ (by omega), if_neg (by omega), if_neg (by omega)]
        exact (hr t ht).1 (by omega)
      · rw [hg _ ht]
        by_cases e1 : t = j
        · rw [if_pos e1, (hr t ht).1 (by omega), show n - 1 - t = i by omega]
        · rw [if_neg e1]
          by_cases e2 : t = i
          · rw [if_pos e2, (hr t ht).1 (by omega), show n - 1 - t = j by omega]
          · rw [if_neg e2]
            exact (hr t ht).2 (by omega)
    · refine Ev.some_ ?_
      refine List.ext_getElem (by omega) fun t h1 h2 => ?_
      have h := hr t (by omega)
      by_cases hc : i ≤ t ∧ t ≤ j
      · have e := h.1 hc
        rw [show n - 1 - t = t by omega] at e
        simpa [List.getD, h1, h2] using e.symm
      · have e := h.2 hc
        simpa [List.getD, h1, h2] using e.symm
theorem rev_f (xs : List Int) (h0 : 0 < xs.length) (hn : xs.length ≤ 1000) : Ev (fun k => slices_Reverse_byte_byte.f k xs) xs.reverse := by
  unfold slices_Reverse_byte_byte.f
  rw [w64 (by omega), show ((xs.length : Int) - 1) = ((xs.length - 1 : Nat) : Int) by omega]
  refine rev_l0 xs.length xs.reverse (by simp) hn xs.length 0 (xs.length - 1) xs (by omega) rfl (by omega) fun t ht => ⟨fun _ => ?_, fun h => absurd ⟨by omega, by omega⟩ h⟩
  have h1 : t < xs.reverse.length := by simpa using ht
  have h2 : xs.length - 1 - t < xs.length := by omega
  simp [List.getD, h1, h2, List.getElem_reverse, ht]
theorem wText_l0 : ∀ (n : Nat) (v : Int) (xs : List Int), 0 ≤ v → v < 10 ^ n → v < 340282366920938463463374607431768211456 → 0 < xs.length → xs.length + n ≤ 1000 →
    Ev (fun k => wide_Text.l0 k xs (wd v).1 (wd v).2) (strOfNums (xs ++ (if 0 < v then dl n v else [])).reverse) := by
  intro n
  induction n with
  | zero =>
    intro v xs h0 h1 h2 hx hl
    have h3 : v < 1 := h1
    obtain rfl : v = 0 := by omega
    refine Ev.succ ?_
    simp only [wide_Text.l0]
    refine Ev.neg (by decide) (Ev.bind (rev_f xs hx (by omega)) (Ev.some_ ?_))
    rw [if_neg (by omega), List.append_nil]
  | succ n ih =>
    intro v xs h0 h1 h2 hx hl
    refine Ev.succ ?_
    simp only [wide_Text.l0]
    by_cases hv : 0 < v
    · rw [if_pos hv]
      have hc : (!((wd v).1 == 0) || !((wd v).2 == 0)) = true := by
        rw [Bool.or_eq_true, Bool.not_eq_true', Bool.not_eq_true', beq_eq_false_iff_ne, beq_eq_false_iff_ne]
        simp only [wd]
        omega
      refine Ev.pos hc (Ev.bind (tenth_f ⟨h0, h2⟩) (Ev.pos (by omega) ?_))
      simp only
      rw [show (48 + v % 10) % 256 = 48 + v % 10 by omega]
      have := ih (v / 10) (xs ++ [48 + v % 10]) (by omega) (lt10 h1) (by omega) (by simp) (by simp; omega)
      rw [tail10] at this
      exact this
    · obtain rfl : v = 0 := by omega
      rw [if_neg hv, List.append_nil]
      exact Ev.neg (by decide) (Ev.bind (rev_f xs hx (by omega)) (Ev.some_ rfl))
theorem wText_f {v : Int} (h : 0 ≤ v ∧ v < 340282366920938463463374607431768211456) : Ev (fun k => wide_Text.f k (wd v).1 (wd v).2) (strOfNums (dl 39 v).reverse) := by
  unfold wide_Text.f
  refine Ev.bind (tenth_f h) ?_
  simp only
  rw [show (48 + v % 10) % 256 = 48 + v % 10 by omega]
  have := wText_l0 38 (v / 10) [48 + v % 10] (by omega) (by have : (10 : Int) ^ 38 = 100000000000000000000000000000000000000 := (by decide); omega) (by omega) (by simp) (by simp)
  exact this
def dg (v : Int) : List Int := [bigD v 0, bigD v 1, bigD v 2, bigD v 3, bigD v 4, bigD v 5, bigD v 6, bigD v 7]
theorem dg_dl (v : Int) : Dl (dg v) := by
  refine ⟨rfl, fun j hj => ?_⟩
  have h := fun i => bD_in v i
  match j, hj with
  | 0, _ => exact h 0
  | 1, _ => exact h 1
  | 2, _ => exact h 2
  | 3, _ => exact h 3
  | 4, _ => exact h 4
  | 5, _ => exact h 5
  | 6, _ => exact h 6
  | 7, _ => exact h 7
theorem bigD_of {b0 b1 b2 b3 b4 b5 b6 b7 : Int} (h0 : 0 ≤ b0 ∧ b0 ≤ 65535) (h1 : 0 ≤ b1 ∧ b1 ≤ 65535) (h2 : 0 ≤ b2 ∧ b2 ≤ 65535) (h3 : 0 ≤ b3 ∧ b3 ≤ 65535) (h4 : 0 ≤ b4 ∧ b4 ≤ 65535) (h5 : 0 ≤ b5 ∧ b5 ≤ 65535) (h6 : 0 ≤ b6 ∧ b6 ≤ 65535) (h7 : 0 ≤ b7 ∧ b7 ≤ 65535) :
    dg (bigV b0 b1 b2 b3 b4 b5 b6 b7) = [b0, b1, b2, b3, b4, b5, b6, b7] := by
  simp only [dg, bigD, bigV, List.cons.injEq, and_true, Int.reducePow]
  refine ⟨?_, ?_, ?_, ?_, ?_, ?_, ?_, ?_⟩ <;> omega
theorem some8 {q0 q1 q2 q3 q4 q5 q6 q7 : Int} (h0 : 0 ≤ q0) (h1 : 0 ≤ q1) (h2 : 0 ≤ q2) (h3 : 0 ≤ q3) (h4 : 0 ≤ q4) (h5 : 0 ≤ q5) (h6 : 0 ≤ q6) (h7 : 0 ≤ q7) :
    (decide (0 < q7) || decide (0 < q6) || decide (0 < q5) || decide (0 < q4) || decide (0 < q3) || decide (0 < q2) || decide (0 < q1) || decide (0 < q0)) = decide (0 < bigV q0 q1 q2 q3 q4 q5 q6 q7) := by
  rw [Bool.eq_iff_iff]
  simp only [Bool.or_eq_true, decide_eq_true_eq, bigV]
  constructor
  · intro h
    refine decide_eq_true ?_
    rcases h with ((((((h | h) | h) | h) | h) | h) | h) | h <;> omega
  · intro h
    have h := of_decide_eq_true h
    apply Classical.byContradiction
    intro hn
    simp only [not_or] at hn
    omega
theorem tx_f {v : Int} (h : 0 ≤ v ∧ v < 340282366920938463463374607431768211456) : tx 8 (dg v) 0 false = (dg (v / 10), v % 10, decide (0 < v / 10)) := by
  have hv := bV_digs v
  rw [Int.emod_eq_of_lt h.1 h.2] at hv
  have hb := fun i => bD_in v i
  obtain ⟨g0, g1, g2, g3, g4, g5, g6, g7⟩ : (0 ≤ bigD v 0 ∧ bigD v 0 ≤ 65535) ∧ (0 ≤ bigD v 1 ∧ bigD v 1 ≤ 65535) ∧ (0 ≤ bigD v 2 ∧ bigD v 2 ≤ 65535) ∧ (0 ≤ bigD v 3 ∧ bigD v 3 ≤ 65535) ∧ (0 ≤ bigD v 4 ∧ bigD v 4 ≤ 65535) ∧ (0 ≤ bigD v 5 ∧ bigD v 5 ≤ 65535) ∧ (0 ≤ bigD v 6 ∧ bigD v 6 ≤ 65535) ∧ (0 ≤ bigD v 7 ∧ bigD v 7 ≤ 65535) := ⟨hb 0, hb 1, hb 2, hb 3, hb 4, hb 5, hb 6, hb 7⟩
  clear hb
  unfold dg
  generalize bigD v 0 = a0 at *
  generalize bigD v 1 = a1 at *
  generalize bigD v 2 = a2 at *
  generalize bigD v 3 = a3 at *
  generalize bigD v 4 = a4 at *
  generalize bigD v 5 = a5 at *
  generalize bigD v 6 = a6 at *
  generalize bigD v 7 = a7 at *
  simp only [tx, List.getD_cons_succ, List.getD_cons_zero, List.set_cons_succ, List.set_cons_zero, Int.zero_mul, Int.zero_add, Bool.false_or]
  obtain ⟨n7, e7⟩ : ∃ n, n = a7 := ⟨_, rfl⟩
  rw [← e7]
  obtain ⟨n6, e6⟩ : ∃ n, n = n7 % 10 * 65536 + a6 := ⟨_, rfl⟩
  rw [← e6]
  obtain ⟨n5, e5⟩ : ∃ n, n = n6 % 10 * 65536 + a5 := ⟨_, rfl⟩
  rw [← e5]
  obtain ⟨n4, e4⟩ : ∃ n, n = n5 % 10 * 65536 + a4 := ⟨_, rfl⟩
  rw [← e4]
  obtain ⟨n3, e3⟩ : ∃ n, n = n4 % 10 * 65536 + a3 := ⟨_, rfl⟩
  rw [← e3]
  obtain ⟨n2, e2⟩ : ∃ n, n = n3 % 10 * 65536 + a2 := ⟨_, rfl⟩
  rw [← e2]
  obtain ⟨n1, e1⟩ : ∃ n, n = n2 % 10 * 65536 + a1 := ⟨_, rfl⟩
  rw [← e1]
  obtain ⟨n0, e0⟩ : ∃ n, n = n1 % 10 * 65536 + a0 := ⟨_, rfl⟩
  rw [← e0]
  have hq : v = bigV (n0 / 10) (n1 / 10) (n2 / 10) (n3 / 10) (n4 / 10) (n5 / 10) (n6 / 10) (n7 / 10) * 10 + n0 % 10 := by
    rw [← hv]
    simp only [bigV]
    omega
  have hd : v / 10 = bigV (n0 / 10) (n1 / 10) (n2 / 10) (n3 / 10) (n4 / 10) (n5 / 10) (n6 / 10) (n7 / 10) := by omega
  have hm : v % 10 = n0 % 10 := by omega
  have hdg := bigD_of (b0 := n0 / 10) (b1 := n1 / 10) (b2 := n2 / 10) (b3 := n3 / 10) (b4 := n4 / 10) (b5 := n5 / 10) (b6 := n6 / 10) (b7 := n7 / 10) (by omega) (by omega) (by omega) (by omega) (by omega) (by omega) (by omega) (by omega)
  rw [hd, hm]
  have hs := some8 (q0 := n0 / 10) (q1 := n1 / 10) (q2 := n2 / 10) (q3 := n3 / 10) (q4 := n4 / 10) (q5 := n5 / 10) (q6 := n6 / 10) (q7 := n7 / 10) (by omega) (by omega) (by omega) (by omega) (by omega) (by omega) (by omega) (by omega)
  rw [hs]
  unfold dg at hdg
  rw [← hdg]
theorem strOfNums_append (a b : List Int) : strOfNums (a ++ b) = strOfNums a ++ strOfNums b := by
  unfold strOfNums
  rw [List.map_append]
  apply ByteArray.ext
  simp
theorem rText_l0 : ∀ (n : Nat) (v : Int) (out : ByteArray), 0 ≤ v → v < 10 ^ (n + 1) → v < 340282366920938463463374607431768211456 → out.size + n ≤ 1000 →
    Ev (fun k => offertoryref09_Text.l0 k (dg v) out) (strOfNums (dl (n + 1) v).reverse ++ out) := by
  intro n
  induction n with
  | zero =>
    intro v out h0 h1 h2 hs
    have h3 : v < 10 := h1
    refine Ev.succ ?_
    simp only [offertoryref09_Text.l0, tx_f ⟨h0, h2⟩]
    refine Ev.neg (by omega) (Ev.neg (by simp; omega) (Ev.some_ ?_))
    rw [show (48 + v % 10) % 256 = 48 + v % 10 by omega]
    unfold dl
    rw [if_neg (by omega)]
    rfl
  | succ n ih =>
    intro v out h0 h1 h2 hs
    refine Ev.succ ?_
    simp only [offertoryref09_Text.l0, tx_f ⟨h0, h2⟩]
    refine Ev.neg (by omega) ?_
    rw [show (48 + v % 10) % 256 = 48 + v % 10 by omega]
    by_cases hv : 0 < v / 10
    · refine Ev.pos (decide_eq_true hv) ?_
      have := ih (v / 10) (strOfNums [48 + v % 10] ++ out) (by omega) (lt10 h1) (by omega) (by rw [ByteArray.size_append, strOfNums_size]; simp; omega)
      rw [← ByteArray.append_assoc, ← strOfNums_append] at this
      have e : dl (n + 1 + 1) v = (48 + v % 10) :: dl (n + 1) (v / 10) := by
        conv => lhs; unfold dl
        rw [if_pos hv]
      rw [e, List.reverse_cons]
      exact this
    · refine Ev.neg (by simpa using hv) (Ev.some_ ?_)
      have e : dl (n + 1 + 1) v = [48 + v % 10] := by
        conv => lhs; unfold dl
        rw [if_neg hv]
      rw [e]
      rfl
theorem rText_f {v : Int} (h : 0 ≤ v ∧ v < 340282366920938463463374607431768211456) : Ev (fun k => offertoryref09_Text.f k (bigD v 0) (bigD v 1) (bigD v 2) (bigD v 3) (bigD v 4) (bigD v 5) (bigD v 6) (bigD v 7)) (strOfNums (dl 39 v).reverse) := by
  unfold offertoryref09_Text.f
  refine Ev.pos (dg_dl v) ?_
  have := rText_l0 38 v ByteArray.empty h.1 (by have : (10 : Int) ^ (38 + 1) = 1000000000000000000000000000000000000000 := (by decide); omega) h.2 (by decide)
  rw [ByteArray.append_empty] at this
  exact this
end Go.Proofs.Ytaldennkcafceaa.Plain
