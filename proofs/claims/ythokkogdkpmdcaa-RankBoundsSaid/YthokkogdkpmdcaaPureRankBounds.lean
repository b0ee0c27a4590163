/- RankBounds, the plain law. -/
import Derived.Test.YthokkogdkpmdcaaPlainRank
namespace Go.Proofs.Ythokkogdkpmdcaa.Pure
open Go.RowKit Go.Proofs.Ythokkogdkpmdcaa.PAll Go.Proofs.Ythokkogdkpmdcaa.Opn Go.Proofs.Ythokkogdkpmdcaa.Base Go.Proofs.Ythokkogdkpmdcaa.Plain Go.Proofs.YthokkogdkpmdcaaW.PrintWords Go.Proofs.YthokkogdkpmdcaaW.PrintLast Go.Proofs.YthokkogdkpmdcaaW.PrintMore
set_option linter.unusedVariables false
set_option linter.unusedSimpArgs false
theorem bin_f {lo hi : Int} (most : Int) {es : List Int} (h0 : lo ≤ hi) (hl : es.length ≤ 64) {x : Int} (h1 : lo ≤ x) (h2 : x ≤ hi) : Ev (fun k => offertoryref09_Bin.f k lo hi most es x) (binN es x : Nat) := by
  have := refBin_f lo hi most es x h0 hl
  rw [clampV_id h1 h2] at this
  exact this
theorem ends {lo hi most : Int} {es : List Int} {b : Nat} {A B : Int} (h0 : lo ≤ hi) (hl : es.length ≤ 64) (hA : lo ≤ A ∧ A ≤ hi) (hB : lo ≤ B ∧ B ≤ hi) (eA : binN es A = b) (eB : binN es B = b) :
    Ev (fun k => (offertoryref09_Bin.f k lo hi most es A).bind fun t => if t = (b : Int) then ((offertoryref09_Bin.f k lo hi most es B).bind fun t' => some (t' == (b : Int))) else none) true := by
  refine Ev.bind (bin_f most h0 hl hA.1 hA.2) (Ev.pos (by rw [eA]) (Ev.bind (bin_f most h0 hl hB.1 hB.2) (Ev.some_ ?_)))
  rw [eB]
  simp
theorem fin {lo hi most : Int} {es : List Int} {b : Nat} {A B : Int} (c : Bool) (x : Int) (hc : c = (decide (A ≤ x) && decide (x ≤ B))) (h0 : lo ≤ hi) (hl : es.length ≤ 64) (hA : lo ≤ A ∧ A ≤ hi) (hB : lo ≤ B ∧ B ≤ hi) (hAB : A ≤ B) (eA : binN es A = b) (eB : binN es B = b) :
    Ev (fun k => (offertorylaw28_awake.f k).bind fun t => if t = true then (if A ≥ lo then (if B ≤ hi then (if A ≤ B then (if x ≥ A then (if (c == decide (x ≤ B)) = true then ((offertoryref09_Bin.f k lo hi most es A).bind fun t => if t = (b : Int) then ((offertoryref09_Bin.f k lo hi most es B).bind fun t' => some (t' == (b : Int))) else none) else none) else (if (c == false) = true then ((offertoryref09_Bin.f k lo hi most es A).bind fun t => if t = (b : Int) then ((offertoryref09_Bin.f k lo hi most es B).bind fun t' => some (t' == (b : Int))) else none) else none)) else none) else none) else none) else none) true := by
  refine Ev.bind awake_f (Ev.pos (by first | rfl | trivial) (Ev.pos (by omega) (Ev.pos (by omega) (Ev.pos hAB (Ev.if_ (fun h => ?_) (fun h => ?_))))))
  · refine Ev.pos ?_ (ends h0 hl hA hB eA eB)
    rw [hc, decide_eq_true (show A ≤ x from h)]
    simp
  · refine Ev.pos ?_ (ends h0 hl hA hB eA eB)
    rw [hc, decide_eq_false (show ¬ A ≤ x from fun h' => h h')]
    rfl
theorem RankBounds (a0_0 : Int) (a0_1 : Int) (a0_2 : Int) (l0_3 : List Int) (a1 : Int) (a2 : Int) (w0_0 : (Lit.int .i64 a0_0).wf = true) (w0_1 : (Lit.int .i64 a0_1).wf = true) (w0_2 : (Lit.int .i64 a0_2).wf = true) (w0_3 : (SliceOk 8 (fun n => (Lit.int .i64 n).wf = true)) l0_3) (w1 : (Lit.int .i64 a1).wf = true) (w2 : (Lit.int .i64 a2).wf = true) : ∃ k, offertorylaw28_RankBounds.f k a0_0 a0_1 a0_2 l0_3 a1 a2 = some true := by
  have h1 := i64_of w0_0
  have h2 := i64_of w0_1
  have hl : l0_3.length ≤ 9223372036854775806 := by have := w0_3.1; omega
  have hes : ∀ j, -9223372036854775808 ≤ l0_3.getD j 0 ∧ l0_3.getD j 0 ≤ 9223372036854775807 := by
    intro j
    by_cases hj : j < l0_3.length
    · rw [List.getD_eq_getElem?_getD, List.getElem?_eq_getElem hj]
      exact i64_of (w0_3.2.2 _ (List.getElem_mem hj))
    · rw [List.getD_eq_getElem?_getD, List.getElem?_eq_none (by omega)]
      simp
  refine Ev.rounds ?_
  unfold offertorylaw28_RankBounds.f
  by_cases hs : soundE a0_0 a0_1 a0_2 l0_3 = 0
  · by_cases hb : a1 < 0 ∨ a1 > (l0_3.length : Int)
    · have hr := rbounds_no a0_0 a0_1 a0_2 l0_3 a1 hl h1 h2 (fun _ => hb)
      rw [if_pos hs] at hr
      refine Ev.bind hr (Ev.bind (refSound_f _ _ _ _ h1 h2) (Ev.pos hs ?_))
      have tail : Ev (fun k => offertorylaw28_RankBounds.j0 k a1 a2 0 0 1 (soundE a0_0 a0_1 a0_2 l0_3) true a0_0 a0_1 a0_2 l0_3) true := by
        refine Ev.succ ?_
        simp only [offertorylaw28_RankBounds.j0]
        refine Ev.pos (by first | rfl | trivial) (Ev.succ ?_)
        simp only [offertorylaw28_RankBounds.j1]
        exact Ev.neg (by decide) (Ev.bind awake_f (Ev.pos (by first | rfl | trivial) (Ev.pos (by first | rfl | trivial) (Ev.pos (by first | rfl | trivial) (Ev.some_ rfl)))))
      refine Ev.if_ (fun _ => tail) (fun hn => ?_)
      rw [decide_eq_true (show a1 > (l0_3.length : Int) by omega)]
      exact tail
    · obtain ⟨b, rfl⟩ := Int.eq_ofNat_of_zero_le (show 0 ≤ a1 by omega)
      have hb' : b ≤ l0_3.length := by omega
      obtain ⟨s1, s2, s3, s4, s5, s6, s7, s8⟩ := sound0 hs
      refine Ev.bind (rbounds_f a0_0 a0_1 a0_2 l0_3 b hs hb' h1 h2 hes) (Ev.bind (refSound_f _ _ _ _ h1 h2) (Ev.pos hs (Ev.neg (by omega) ?_)))
      rw [decide_eq_false (show ¬ (b : Int) > (l0_3.length : Int) by omega), hs]
      refine Ev.succ ?_
      simp only [offertorylaw28_RankBounds.j0]
      refine Ev.neg (by decide) (Ev.succ ?_)
      simp only [offertorylaw28_RankBounds.j1]
      refine Ev.pos (by first | rfl | trivial) (Ev.bind (bin_f a0_2 s3 s8 (Int.le_refl _) s3) (Ev.bind (bin_f a0_2 s3 s8 s3 (Int.le_refl _)) ?_))
      by_cases hin : binN l0_3 a0_0 ≤ b ∧ b ≤ binN l0_3 a0_1
      · have hAB := some_bin s3 s7 hb' hin.1 hin.2
        have hlo := lowB_ge a0_0 l0_3 b
        have hhi := highB_le a0_1 l0_3 b
        have eR : boundsR a0_0 a0_1 l0_3 b = (lowB a0_0 l0_3 b, highB a0_1 l0_3 b, 0) := by unfold boundsR; rw [if_neg (by omega)]
        rw [eR]
        have eA : binN l0_3 (lowB a0_0 l0_3 b) = b := (in_iff s7 hb' (lo := a0_0) (hi := a0_1) (by omega) (by omega)).2 ⟨by omega, by omega⟩
        have eB : binN l0_3 (highB a0_1 l0_3 b) = b := (in_iff s7 hb' (lo := a0_0) (hi := a0_1) (by omega) (by omega)).2 ⟨by omega, by omega⟩
        have hx := fun (g1 : a0_0 ≤ a2) (g2 : a2 ≤ a0_1) => in_iff s7 hb' g1 g2
        refine Ev.neg (by omega) ?_
        rw [decide_eq_false (show ¬ (b : Int) > ((binN l0_3 a0_1 : Nat) : Int) by omega)]
        refine Ev.succ ?_
        simp only [offertorylaw28_RankBounds.j2]
        refine Ev.neg (by decide) (Ev.pos (by first | rfl | trivial) (Ev.if_ (fun g1 => Ev.if_ (fun g2 => ?_) (fun g2 => ?_)) (fun g1 => ?_)))
        · refine Ev.bind (bin_f a0_2 s3 s8 g1 g2) ?_
          refine fin _ a2 ?_ s3 s8 ⟨hlo, by omega⟩ ⟨by omega, hhi⟩ hAB eA eB
          have := hx g1 g2
          by_cases hq : binN l0_3 a2 = b
          · obtain ⟨q1, q2⟩ := this.1 hq
            rw [hq, decide_eq_true q1, decide_eq_true q2]
            simp
          · have hq2 : ¬ (lowB a0_0 l0_3 b ≤ a2 ∧ a2 ≤ highB a0_1 l0_3 b) := fun q => hq (this.2 q)
            rw [← Bool.decide_and, decide_eq_false hq2]
            simp
            omega
        · refine fin false a2 ?_ s3 s8 ⟨hlo, by omega⟩ ⟨by omega, hhi⟩ hAB eA eB
          rw [decide_eq_false (show ¬ a2 ≤ highB a0_1 l0_3 b by omega)]
          simp
        · refine fin false a2 ?_ s3 s8 ⟨hlo, by omega⟩ ⟨by omega, hhi⟩ hAB eA eB
          rw [decide_eq_false (show ¬ lowB a0_0 l0_3 b ≤ a2 by omega)]
          simp
      · have hno : b < binN l0_3 a0_0 ∨ binN l0_3 a0_1 < b := by omega
        have hAB := no_bin s3 s7 hb' hno
        have eR : boundsR a0_0 a0_1 l0_3 b = (0, 0, 7) := by unfold boundsR; rw [if_pos hAB]
        rw [eR]
        have tail : Ev (fun k => offertorylaw28_RankBounds.j2 k (b : Int) a2 0 0 7 ((binN l0_3 a0_0 : Nat) : Int) ((binN l0_3 a0_1 : Nat) : Int) true a0_0 a0_1 a0_2 l0_3) true := by
          refine Ev.succ ?_
          simp only [offertorylaw28_RankBounds.j2]
          exact Ev.pos (by first | rfl | trivial) (Ev.bind awake_f (Ev.pos (by first | rfl | trivial) (Ev.pos (by first | rfl | trivial) (Ev.pos (by first | rfl | trivial) (Ev.some_ rfl)))))
        refine Ev.if_ (fun _ => tail) (fun hn => ?_)
        rw [decide_eq_true (show (b : Int) > ((binN l0_3 a0_1 : Nat) : Int) by omega)]
        exact tail
  · have hr := rbounds_no a0_0 a0_1 a0_2 l0_3 a1 hl h1 h2 (fun h => absurd h hs)
    rw [if_neg hs] at hr
    refine Ev.bind hr (Ev.bind (refSound_f _ _ _ _ h1 h2) (Ev.neg hs (Ev.succ ?_)))
    simp only [offertorylaw28_RankBounds.j0]
    refine Ev.neg (by decide) (Ev.succ ?_)
    simp only [offertorylaw28_RankBounds.j1]
    exact Ev.neg hs (Ev.bind awake_f (Ev.pos (by first | rfl | trivial) (Ev.pos (by first | rfl | trivial) (Ev.pos (by first | rfl | trivial) (Ev.some_ rfl)))))
end Go.Proofs.Ythokkogdkpmdcaa.Pure
