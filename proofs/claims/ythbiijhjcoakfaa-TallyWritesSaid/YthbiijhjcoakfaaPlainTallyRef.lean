/- The program's vector of any samples is the document's. -/
import Derived.Test.YthbiijhjcoakfaaPlainTallySum
import Derived.Test.YthbiijhjcoakfaaPlainEncode
import Derived.Test.YthbiijhjcoakfaaPlainWideMul
namespace Go.Proofs.Ythbiijhjcoakfaa.Plain
open Go.RowKit Go.Proofs.Ythbiijhjcoakfaa.PAll Go.Proofs.Ythbiijhjcoakfaa.Opn Go.Proofs.Ythbiijhjcoakfaa.Base Go.Proofs.YthbiijhjcoakfaaW.PrintWords Go.Proofs.YthbiijhjcoakfaaW.PrintLast Go.Proofs.YthbiijhjcoakfaaW.PrintMore
set_option linter.unusedVariables false
set_option linter.unusedSimpArgs false
theorem two_pos0 (n : Nat) : (0 : Int) < 2 ^ n := Int.pow_pos (by decide)
theorem loBit_eq {x : Int} (h0 : 0 ≤ x) (h1 : x ≤ 18446744073709551615) (i : Nat) : loBit x i = x / 2 ^ i % 2 := by
  have p0 : 0 ≤ x / 2 ^ i := Int.ediv_nonneg h0 (Int.le_of_lt (two_pos0 i))
  have p1 : x / 2 ^ i ≤ x := Int.ediv_le_self _ h0
  unfold loBit
  obtain ⟨n, hn⟩ := Int.eq_ofNat_of_zero_le p0
  rw [hn] at p1 ⊢
  have e := bits_and_u64_nat n 1 (by omega) (by decide)
  rw [show ((1 : Nat) : Int) = 1 from rfl] at e
  rw [e, Nat.and_one_is_mod]
  rfl
theorem bit64 (u : Int) (r : Nat) (h : r < 64) : u % 18446744073709551616 / 2 ^ r % 2 = u / 2 ^ r % 2 := by
  have hp : (18446744073709551616 : Int) = 2 ^ r * (2 * 2 ^ (63 - r)) := by
    have : (2 : Int) ^ r * (2 * 2 ^ (63 - r)) = 2 ^ (r + (1 + (63 - r))) := by rw [Int.pow_add, Int.pow_add]; rfl
    rw [this, show r + (1 + (63 - r)) = 64 by omega]
    rfl
  have e : u % 18446744073709551616 = u + 2 ^ r * (-(2 * 2 ^ (63 - r) * (u / 18446744073709551616))) := by
    have := Int.emod_def u 18446744073709551616
    rw [this]
    generalize u / 18446744073709551616 = q
    rw [hp, Int.mul_neg, Int.mul_assoc]
    omega
  rw [e, Int.add_mul_ediv_left _ _ (Int.ne_of_gt (two_pos0 r)), Int.mul_assoc, ← Int.mul_neg]
  generalize 2 ^ (63 - r) * (u / 18446744073709551616) = q
  omega
theorem bitAt_wd (w : Int) (i : Nat) (h : i < 128) : bitAt (wd w) i = w / 2 ^ i % 2 := by
  have hw := wd_in w
  unfold W64 at hw
  unfold bitAt
  by_cases hi : i < 64
  · rw [if_pos hi, loBit_eq hw.2.1 hw.2.2]
    exact bit64 w i hi
  · rw [if_neg hi, loBit_eq hw.1.1 hw.1.2]
    show w / 18446744073709551616 % 18446744073709551616 / 2 ^ (i - 64) % 2 = _
    rw [bit64 _ _ (by omega), Int.ediv_ediv_of_nonneg (by decide), show (18446744073709551616 : Int) = 2 ^ 64 from rfl, ← Int.pow_add, show 64 + (i - 64) = i by omega]
theorem sum_ext {f g : Int → Int} {l : List Int} (h : ∀ x, f x = g x) : (l.map f).sum = (l.map g).sum := by rw [show f = g from funext h]
theorem vec_eq {lo hi most n : Int} {es : List Int} (l : List Int) (hs : soundE lo hi most es = 0) (hn : IsBits lo hi n) : vecV lo hi es l n.toNat = vecE lo hi es n.toNat l := by
  obtain ⟨a1, a2, a3, a4, a5, a6, a7, a8⟩ := sound0 hs
  have h40 := hn.le40 a4
  have h01 := hn.1
  refine list_ext _ _ (by rw [vec_length, vecE_length]) fun m => ?_
  rw [vec_get, vecE_get _ _ _ _ (by omega)]
  unfold vecAt conS
  by_cases h1 : m < es.length + 1
  · rw [if_pos h1]
    unfold cB
    congr 1
    exact sum_ext fun x => by unfold conE; rw [if_pos h1]
  · rw [if_neg h1]
    by_cases h2 : m < es.length + 2
    · rw [if_pos h2]
      congr 1
      rw [sum_ext (g := fun _ => 1) fun x => by unfold conE; rw [if_neg h1, if_pos h2]]
      clear hn hs
      induction l with
      | nil => rfl
      | cons x l ih => rw [List.map_cons, List.sum_cons, ← ih, List.length_cons]; omega
    · rw [if_neg h2]
      by_cases h3 : m < es.length + 2 + n.toNat
      · rw [if_pos h3]
        congr 1
        unfold sumB
        rw [List.map_map]
        refine sum_ext fun x => ?_
        have hc := clampV_in a3 x
        show bitAt (0, clampV lo hi x - lo) (m - (es.length + 2)) = _
        unfold conE bitAt
        rw [if_neg h1, if_neg h2, if_pos h3, if_pos (by omega)]
        exact loBit_eq (by omega) (by omega) _
      · rw [if_neg h3]
        by_cases h4 : m < es.length + 2 + 3 * n.toNat
        · rw [if_pos h4]
          congr 1
          unfold sumB
          rw [List.map_map]
          refine sum_ext fun x => ?_
          have hc := clampV_in a3 x
          show bitAt (sqW lo hi x) (m - (es.length + 2 + n.toNat)) = _
          unfold sqW
          rw [wMul_f (by unfold W64; omega) (by unfold W64; omega), Option.getD_some, bitAt_wd _ _ (by omega)]
          unfold conE
          rw [if_neg h1, if_neg h2, if_neg h3, if_pos h4]
        · rw [if_neg h4]
          rw [sum_ext (g := fun _ => 0) fun x => by unfold conE; rw [if_neg h1, if_neg h2, if_neg h3, if_neg h4]]
          clear hn hs
          induction l with
          | nil => rfl
          | cons x l ih => rw [List.map_cons, List.sum_cons, Int.zero_add]; exact ih
end Go.Proofs.Ythbiijhjcoakfaa.Plain
