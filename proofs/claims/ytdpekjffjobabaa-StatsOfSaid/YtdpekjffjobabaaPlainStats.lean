/- What any samples come to: the program's answer and the document's. -/
import Derived.Test.YtdpekjffjobabaaPlainBinFind
import Derived.Test.YtdpekjffjobabaaPlainBigMul
import Derived.Test.YtdpekjffjobabaaPlainBigSign
namespace Go.Proofs.Ytdpekjffjobabaa.Plain
open Go.RowKit Go.Proofs.Ytdpekjffjobabaa.PAll Go.Proofs.Ytdpekjffjobabaa.Opn Go.Proofs.Ytdpekjffjobabaa.Base Go.Proofs.YtdpekjffjobabaaW.PrintWords Go.Proofs.YtdpekjffjobabaaW.PrintLast Go.Proofs.YtdpekjffjobabaaW.PrintMore
set_option linter.unusedVariables false
set_option linter.unusedSimpArgs false
/-- The sum of the samples as they count; of their squares. -/
def sumC (lo hi : Int) (l : List Int) : Int := (l.map (clampV lo hi)).sum
def sqC (lo hi : Int) (l : List Int) : Int := (l.map fun x => clampV lo hi x * clampV lo hi x).sum
theorem sumC_cons (lo hi x : Int) (l : List Int) : sumC lo hi (x :: l) = clampV lo hi x + sumC lo hi l := by simp [sumC]
theorem sqC_cons (lo hi x : Int) (l : List Int) : sqC lo hi (x :: l) = clampV lo hi x * clampV lo hi x + sqC lo hi l := by simp [sqC]
theorem drop_get {l : List Int} {i : Nat} (h : i < l.length) : l.drop i = l.getD i 0 :: l.drop (i + 1) := by
  rw [List.drop_eq_getElem_cons h]
  simp [List.getD, List.getElem?_eq_getElem h]
def statsV (lo hi : Int) (es c l : List Int) (n S Q : Int) : List Int × Int × Int × Int × Int × Int × Bool :=
  (counts lo hi es c l, n, (resS (S + sumC lo hi l)).1, (resS (S + sumC lo hi l)).2.1, (wd (Q + sqC lo hi l)).1, (wd (Q + sqC lo hi l)).2, (resS (S + sumC lo hi l)).2.2)
theorem statsV_nil (lo hi : Int) (es c : List Int) (n S Q : Int) : statsV lo hi es c [] n S Q = (c, n, (resS S).1, (resS S).2.1, (wd Q).1, (wd Q).2, (resS S).2.2) := by
  have e1 : sumC lo hi [] = 0 := rfl
  have e2 : sqC lo hi [] = 0 := rfl
  unfold statsV
  rw [e1, e2, Int.add_zero, Int.add_zero]
  rfl
theorem statsV_cons (lo hi : Int) (es c l : List Int) (x n S Q : Int) : statsV lo hi es c (x :: l) n S Q = statsV lo hi es (bump c (binN es (clampV lo hi x))) l n (S + clampV lo hi x) (Q + clampV lo hi x * clampV lo hi x) := by
  unfold statsV
  rw [sumC_cons, sqC_cons, ← Int.add_assoc, ← Int.add_assoc]
  rfl
theorem of_l0 (lo hi most : Int) (es l : List Int) (cnt : Int) (hs : soundE lo hi most es = 0) (hlm : l.length ≤ 1000000) : ∀ (d i : Nat) (c : List Int) (S Q : Int), l.length - i = d → i ≤ l.length → c.length = es.length + 1 → (∀ v ∈ c, 0 ≤ v ∧ v ≤ (i : Int)) →
    Ev (fun k => stats_Of.l0 k l (l.length : Int) (i : Int) lo hi most es c cnt 0 0 (wd Q).1 (wd Q).2 false (wd S).1 (wd S).2)
      ((statsV lo hi es c (l.drop i) cnt S Q).1, (statsV lo hi es c (l.drop i) cnt S Q).2.1, (statsV lo hi es c (l.drop i) cnt S Q).2.2.1, (statsV lo hi es c (l.drop i) cnt S Q).2.2.2.1, (statsV lo hi es c (l.drop i) cnt S Q).2.2.2.2.1, (statsV lo hi es c (l.drop i) cnt S Q).2.2.2.2.2.1, (statsV lo hi es c (l.drop i) cnt S Q).2.2.2.2.2.2, 0)
  | d, i, c, S, Q, hd, hi', hc, hin => by
    obtain ⟨a1, a2, a3, a4, a5, a6, a7, a8⟩ := sound0 hs
    refine Ev.succ ?_
    simp only [stats_Of.l0, rd_nat]
    by_cases h : i < l.length
    · have hb := binN_le es (clampV lo hi (l.getD i 0))
      have hf := find_f lo hi most es (l.getD i 0) (by omega) (by omega) (by omega)
      have hcl := clamp_f lo hi most es (l.getD i 0) (by omega) (by omega) (by omega)
      rw [if_pos hs] at hf hcl
      have hcv := clampV_in a3 (l.getD i 0)
      have hw := of_w (x := clampV lo hi (l.getD i 0)) (by omega)
      refine Ev.pos (by omega) (Ev.pos (by omega) (Ev.pos (by omega) (Ev.bind hf (Ev.pos (by omega) (Ev.pos (by omega) (Ev.bind hcl (Ev.bind0 hw (Ev.bind0 (add_w S _) (Ev.bind0 hw (Ev.bind0 hw (Ev.bind0 (product_w _ _) (Ev.bind0 (add_w Q _) ?_))))))))))))
      have hg := getD_in hin (n := binN es (clampV lo hi (l.getD i 0))) (by omega)
      rw [rd_nat, w64 (x := (i : Int) + 1) (by omega), w64 (by omega)]
      have ih := of_l0 lo hi most es l cnt hs hlm (d - 1) (i + 1) (bump c (binN es (clampV lo hi (l.getD i 0)))) (S + clampV lo hi (l.getD i 0)) (Q + clampV lo hi (l.getD i 0) * clampV lo hi (l.getD i 0)) (by omega) (by omega) (by rw [bump_length]; exact hc) (by
        have := bump_in hin (n := binN es (clampV lo hi (l.getD i 0))) (by omega)
        intro v hv
        have := this v hv
        omega)
      rw [drop_get h, statsV_cons]
      exact ih
    · refine Ev.neg (by omega) (Ev.bind0 (signed_r S) (Ev.some_ ?_))
      rw [List.drop_eq_nil_of_le (by omega), statsV_nil]
  termination_by d _ _ _ _ => d
  decreasing_by all_goals omega
theorem of_f13 (lo hi most : Int) (es l : List Int) (hl : es.length ≤ 9223372036854775806) (hlm : l.length ≤ 1000000) (h1 : -9223372036854775808 ≤ lo ∧ lo ≤ 9223372036854775807) (h2 : -9223372036854775808 ≤ hi ∧ hi ≤ 9223372036854775807) :
    Ev (fun k => stats_Of.f k lo hi most es l) (if soundE lo hi most es = 0 then ((statsV lo hi es (zeros es) l l.length 0 0).1, (statsV lo hi es (zeros es) l l.length 0 0).2.1, (statsV lo hi es (zeros es) l l.length 0 0).2.2.1, (statsV lo hi es (zeros es) l l.length 0 0).2.2.2.1, (statsV lo hi es (zeros es) l l.length 0 0).2.2.2.2.1, (statsV lo hi es (zeros es) l l.length 0 0).2.2.2.2.2.1, (statsV lo hi es (zeros es) l l.length 0 0).2.2.2.2.2.2, 0) else ([], 0, 0, 0, 0, 0, false, soundE lo hi most es)) := by
  unfold stats_Of.f
  refine Ev.bind (sound_f lo hi most es hl h1 h2) ?_
  by_cases h : soundE lo hi most es = 0
  · obtain ⟨a1, a2, a3, a4, a5, a6, a7, a8⟩ := sound0 h
    simp only [h, if_true]
    rw [w64 (by omega)]
    refine Ev.pos (by omega) (Ev.pos (by omega) ?_)
    have := of_l0 lo hi most es l l.length h hlm _ 0 (zeros es) 0 0 rfl (Nat.zero_le _) (zeros_length es) (zeros_in es)
    rw [show ((es.length : Int) + 1).toNat = es.length + 1 by omega]
    exact this
  · simp only [h, if_false]
    exact Ev.now _
theorem refStats_l0 (lo hi most : Int) (es l : List Int) (cnt : Int) (hs : soundE lo hi most es = 0) (hlm : l.length ≤ 1000000) : ∀ (d i : Nat) (c : List Int) (S Q : Int), l.length - i = d → i ≤ l.length → c.length = es.length + 1 → (∀ v ∈ c, 0 ≤ v ∧ v ≤ (i : Int)) →
    Ev (fun k => offertoryref09_Stats.l0 k l (i : Int) lo hi most es c cnt 0 0 0 0 false (bigD S 0) (bigD S 1) (bigD S 2) (bigD S 3) (bigD S 4) (bigD S 5) (bigD S 6) (bigD S 7) (bigD Q 0) (bigD Q 1) (bigD Q 2) (bigD Q 3) (bigD Q 4) (bigD Q 5) (bigD Q 6) (bigD Q 7)) (statsV lo hi es c (l.drop i) cnt S Q)
  | d, i, c, S, Q, hd, hi', hc, hin => by
    obtain ⟨a1, a2, a3, a4, a5, a6, a7, a8⟩ := sound0 hs
    refine Ev.succ ?_
    simp only [offertoryref09_Stats.l0, rd_nat]
    by_cases h : i < l.length
    · have hb := binN_le es (clampV lo hi (l.getD i 0))
      have hf := refBin_f lo hi most es (l.getD i 0) a3 a8
      have hcv := clampV_in a3 (l.getD i 0)
      have hw := bigInt_f (x := clampV lo hi (l.getD i 0)) (by omega)
      refine Ev.pos (by omega) (Ev.pos (by omega) (Ev.bind hf (Ev.pos (by omega) (Ev.pos (by omega) (Ev.bind0 (refClamp_f a3 most es _) (Ev.bind0 hw (Ev.bind0 (bigAdd_f S _) (Ev.bind0 (bigMul_f _ _) (Ev.bind0 (bigAdd_f Q _) ?_)))))))))
      have hg := getD_in hin (n := binN es (clampV lo hi (l.getD i 0))) (by omega)
      rw [rd_nat, w64 (x := (i : Int) + 1) (by omega), w64 (by omega)]
      have ih := refStats_l0 lo hi most es l cnt hs hlm (d - 1) (i + 1) (bump c (binN es (clampV lo hi (l.getD i 0)))) (S + clampV lo hi (l.getD i 0)) (Q + clampV lo hi (l.getD i 0) * clampV lo hi (l.getD i 0)) (by omega) (by omega) (by rw [bump_length]; exact hc) (by
        have := bump_in hin (n := binN es (clampV lo hi (l.getD i 0))) (by omega)
        intro v hv
        have := this v hv
        omega)
      rw [drop_get h, statsV_cons]
      exact ih
    · refine Ev.neg (by omega) (Ev.bind0 (bigWide_f Q) (Ev.bind0 (bigSigned_f S) (Ev.bind0 (signWide S) (Ev.some_ ?_))))
      rw [List.drop_eq_nil_of_le (by omega), statsV_nil, signBool]
  termination_by d _ _ _ _ => d
  decreasing_by all_goals omega
theorem refStats_f (lo hi most : Int) (es l : List Int) (hs : soundE lo hi most es = 0) (hlm : l.length ≤ 1000000) : Ev (fun k => offertoryref09_Stats.f k lo hi most es l) (statsV lo hi es (zeros es) l l.length 0 0) := by
  obtain ⟨a1, a2, a3, a4, a5, a6, a7, a8⟩ := sound0 hs
  unfold offertoryref09_Stats.f
  rw [w64 (by omega)]
  refine Ev.pos (by omega) (Ev.pos (by omega) ?_)
  have := refStats_l0 lo hi most es l l.length hs hlm _ 0 (zeros es) 0 0 rfl (Nat.zero_le _) (zeros_length es) (zeros_in es)
  rw [show ((es.length : Int) + 1).toNat = es.length + 1 by omega]
  exact this
end Go.Proofs.Ytdpekjffjobabaa.Plain
