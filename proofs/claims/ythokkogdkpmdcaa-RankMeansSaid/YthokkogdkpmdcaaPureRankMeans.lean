/- RankMeans, the plain law. -/
import Derived.Test.YthokkogdkpmdcaaPAllxMeans
import Derived.Test.YthokkogdkpmdcaaPlainMean
import Derived.Test.YthokkogdkpmdcaaPlainBigMul
import Derived.Test.YthokkogdkpmdcaaPlainBigShift
namespace Go.Proofs.Ythokkogdkpmdcaa.Pure
open Go.RowKit Go.Proofs.Ythokkogdkpmdcaa.PAll Go.Proofs.Ythokkogdkpmdcaa.Opn Go.Proofs.Ythokkogdkpmdcaa.Base Go.Proofs.Ythokkogdkpmdcaa.Plain Go.Proofs.YthokkogdkpmdcaaW.PrintWords Go.Proofs.YthokkogdkpmdcaaW.PrintLast Go.Proofs.YthokkogdkpmdcaaW.PrintMore
set_option linter.unusedVariables false
set_option linter.unusedSimpArgs false
theorem awakeMean_f : Ev (fun k => offertorylaw28_awake.f k) true := Ev.of (k := 60) (fun k => offertorylaw28_awake.mono k) (by decide +kernel)
theorem lawA_j0 (n c s : Int) (hn : -9223372036854775808 ≤ n ∧ n ≤ 9223372036854775807) (hc : 1 ≤ c ∧ c ≤ 9223372036854775807) (hs : -85070591730234615865843651857942052864 < s ∧ s < 85070591730234615865843651857942052864) (h1 : n * c ≤ s) (h2 : s < n * c + c) :
    Ev (fun k => law4A.j0 k n 0 (bigD c 0) (bigD c 1) (bigD c 2) (bigD c 3) (bigD c 4) (bigD c 5) (bigD c 6) (bigD c 7) (bigD s 0) (bigD s 1) (bigD s 2) (bigD s 3) (bigD s 4) (bigD s 5) (bigD s 6) (bigD s 7)) true := by
  refine Ev.succ ?_
  simp only [law4A.j0]
  obtain ⟨d1, e1, f1⟩ := bigSign_f (v := s + -(n * c)) (by omega)
  obtain ⟨d2, e2, f2⟩ := bigSign_f (v := s + -(n * c) + -c) (by omega)
  refine Ev.pos trivial (Ev.bind0 (bigInt_f hn) (Ev.bind0 (bigMul_f n c) (Ev.bind0 (bigNeg_f (n * c)) (Ev.bind0 (bigAdd_f s (-(n * c))) (Ev.bind0 e1 (Ev.bind0 (bigNeg_f c) (Ev.bind0 (bigAdd_f (s + -(n * c)) (-c)) (Ev.bind0 e2 (Ev.bind awakeMean_f ?_)))))))))
  refine Ev.pos (by first | rfl | trivial) (Ev.neg ?_ (Ev.some_ ?_))
  · rw [f1, decide_eq_false (by omega)]; decide
  · rw [f2, decide_eq_true (by omega)]
theorem lawB_j0 (n : Int) (l : List Int) (c hi lo q1 q2 : Int) (b : Bool) (s : Int) (hs : -85070591730234615865843651857942052864 < s ∧ s < 85070591730234615865843651857942052864) (hc : 1 ≤ c ∧ c ≤ 9223372036854775807) (h1 : b = false → c * 9223372036854775808 ≤ s) (h2 : b = true → s < - (c * 9223372036854775808)) (h0 : n = 0) :
    Ev (fun k => law4B.j0 k n 4 l c hi lo q1 q2 b (bigD c 0) (bigD c 1) (bigD c 2) (bigD c 3) (bigD c 4) (bigD c 5) (bigD c 6) (bigD c 7) (bigD s 0) (bigD s 1) (bigD s 2) (bigD s 3) (bigD s 4) (bigD s 5) (bigD s 6) (bigD s 7)) true := by
  refine Ev.succ ?_
  simp only [law4B.j0]
  have hsh := bigShift_f 63 c (by omega) 63 (by decide)
  rw [show c * 2 ^ 63 = c * 9223372036854775808 from rfl] at hsh
  obtain ⟨d1, e1, f1⟩ := bigSign_f (v := s + -(c * 9223372036854775808)) (by omega)
  obtain ⟨d2, e2, f2⟩ := bigSign_f (v := s + c * 9223372036854775808) (by omega)
  refine Ev.neg (by omega) (Ev.bind hsh (Ev.bind0 (bigNeg_f (c * 9223372036854775808)) (Ev.bind0 (bigAdd_f s (-(c * 9223372036854775808))) (Ev.bind0 e1 (Ev.bind0 (bigAdd_f s (c * 9223372036854775808)) (Ev.bind0 e2 (Ev.bind awakeMean_f ?_)))))))
  refine Ev.pos (by first | rfl | trivial) (Ev.pos (by first | rfl | trivial) (Ev.pos h0 (Ev.if_ (fun hb => ?_) (fun hb => ?_))))
  · have := h2 hb
    refine Ev.some_ ?_
    rw [f2, decide_eq_true (by omega)]
  · have := h1 (by simpa using hb)
    refine Ev.neg ?_ (Ev.some_ rfl)
    rw [f1, decide_eq_false (by omega)]; decide
theorem fromA {l : List Int} {c hi lo q1 q2 : Int} {b : Bool} (h : Ev (fun k => law4A.f k l c hi lo q1 q2 b) true) : ∃ k, offertorylaw28_RankMeans.f k l c hi lo q1 q2 b = some true := by
  obtain ⟨K, hK⟩ := h
  refine ⟨K, ?_⟩
  unfold offertorylaw28_RankMeans.f
  rw [if_pos (hK K (Nat.le_refl K))]
theorem fromB {l : List Int} {c hi lo q1 q2 : Int} {b : Bool} (h : Ev (fun k => law4B.f k l c hi lo q1 q2 b) true) : ∃ k, offertorylaw28_RankMeans.f k l c hi lo q1 q2 b = some true := by
  obtain ⟨K, hK⟩ := h
  refine ⟨K, ?_⟩
  unfold offertorylaw28_RankMeans.f
  split
  · rfl
  · exact hK K (Nat.le_refl K)
theorem RankMeans (l0_0 : List Int) (a0_1 : Int) (a0_2 : Int) (a0_3 : Int) (a0_4 : Int) (a0_5 : Int) (a0_6 : Bool) (w0_0 : (SliceOk 8 (fun n => (Lit.int .i64 n).wf = true)) l0_0) (w0_1 : (Lit.int .i64 a0_1).wf = true) (w0_2 : (Lit.int .u64 a0_2).wf = true) (w0_3 : (Lit.int .u64 a0_3).wf = true) (w0_4 : (Lit.int .u64 a0_4).wf = true) (w0_5 : (Lit.int .u64 a0_5).wf = true) : ∃ k, offertorylaw28_RankMeans.f k l0_0 a0_1 a0_2 a0_3 a0_4 a0_5 a0_6 = some true := by
  have hc := i64_of w0_1
  have hh : W64 a0_2 := u64_of w0_2
  have hl : W64 a0_3 := u64_of w0_3
  have hm := mean_f l0_0 a0_1 a0_2 a0_3 a0_4 a0_5 a0_6 hc hh hl
  have hw : wv a0_2 a0_3 = a0_3 + a0_2 * 18446744073709551616 := rfl
  have hof := of_f hh hl
  unfold W64 at hh hl
  by_cases h1 : a0_1 < 1
  · have hV : meanV a0_1 (wv a0_2 a0_3) a0_6 = (0, 1) := by unfold meanV; rw [if_pos h1]
    rw [hV] at hm
    refine fromA ?_
    unfold law4A.f
    exact Ev.bind hm (Ev.pos h1 (Ev.bind awakeMean_f (Ev.pos rfl (Ev.pos rfl (Ev.some_ rfl)))))
  by_cases h2 : a0_2 / 4611686018427387904 = 0
  · have hneg : ∀ x : Int, -(x * 9223372036854775808) = -x * 9223372036854775808 := fun x => by rw [Int.neg_mul]
    cases hb : a0_6 with
    | false =>
      rw [hb] at hm
      by_cases h3 : 9223372036854775808 * a0_1 ≤ wv a0_2 a0_3
      · have hV : meanV a0_1 (wv a0_2 a0_3) false = (0, 4) := by unfold meanV; rw [if_neg h1, if_neg (by decide), if_pos h3]
        rw [hV] at hm
        refine fromB ?_
        unfold law4B.f
        refine Ev.bind hm (Ev.neg h1 (Ev.bind0 (bigInt_f hc) (Ev.pos h2 (Ev.bind0 hof (Ev.neg (by decide) ?_)))))
        exact lawB_j0 0 l0_0 a0_1 a0_2 a0_3 a0_4 a0_5 false (wv a0_2 a0_3) (by omega) (by omega) (fun _ => by omega) (fun h => by cases h) rfl
      · have hV : meanV a0_1 (wv a0_2 a0_3) false = (wv a0_2 a0_3 / a0_1, 0) := by unfold meanV; rw [if_neg h1, if_neg (by decide), if_neg h3]
        rw [hV] at hm
        refine fromA ?_
        unfold law4A.f
        refine Ev.bind hm (Ev.neg h1 (Ev.bind0 (bigInt_f hc) (Ev.pos h2 (Ev.bind0 hof (Ev.neg (by decide) ?_)))))
        have e := Int.mul_ediv_add_emod (wv a0_2 a0_3) a0_1
        have e0 := Int.emod_nonneg (wv a0_2 a0_3) (b := a0_1) (by omega)
        have e1 := Int.emod_lt_of_pos (wv a0_2 a0_3) (b := a0_1) (by omega)
        have e2 : 0 ≤ wv a0_2 a0_3 / a0_1 := Int.ediv_nonneg (by omega) (by omega)
        have e3 : wv a0_2 a0_3 / a0_1 < 9223372036854775808 := Int.ediv_lt_of_lt_mul (by omega) (by omega)
        rw [Int.mul_comm] at e
        exact lawA_j0 (wv a0_2 a0_3 / a0_1) a0_1 (wv a0_2 a0_3) (by omega) (by omega) (by omega) (by omega) (by omega)
    | true =>
      rw [hb] at hm
      by_cases h3 : 9223372036854775808 * a0_1 < wv a0_2 a0_3
      · have hV : meanV a0_1 (wv a0_2 a0_3) true = (0, 4) := by unfold meanV; rw [if_neg h1, if_pos rfl, if_pos h3]
        rw [hV] at hm
        refine fromB ?_
        unfold law4B.f
        refine Ev.bind hm (Ev.neg h1 (Ev.bind0 (bigInt_f hc) (Ev.pos h2 (Ev.bind0 hof (Ev.pos rfl (Ev.bind0 (bigNeg_f _) ?_))))))
        exact lawB_j0 0 l0_0 a0_1 a0_2 a0_3 a0_4 a0_5 true (- wv a0_2 a0_3) (by omega) (by omega) (fun h => by cases h) (fun _ => by omega) rfl
      · have hV : meanV a0_1 (wv a0_2 a0_3) true = (-wv a0_2 a0_3 / a0_1, 0) := by unfold meanV; rw [if_neg h1, if_pos rfl, if_neg h3]
        rw [hV] at hm
        refine fromA ?_
        unfold law4A.f
        refine Ev.bind hm (Ev.neg h1 (Ev.bind0 (bigInt_f hc) (Ev.pos h2 (Ev.bind0 hof (Ev.pos rfl (Ev.bind0 (bigNeg_f _) ?_))))))
        have e := Int.mul_ediv_add_emod (-wv a0_2 a0_3) a0_1
        have e0 := Int.emod_nonneg (-wv a0_2 a0_3) (b := a0_1) (by omega)
        have e1 := Int.emod_lt_of_pos (-wv a0_2 a0_3) (b := a0_1) (by omega)
        have e2 : -9223372036854775808 ≤ -wv a0_2 a0_3 / a0_1 := Int.le_ediv_of_mul_le (by omega) (by omega)
        have e3 : -wv a0_2 a0_3 / a0_1 < 1 := Int.ediv_lt_of_lt_mul (by omega) (by omega)
        rw [Int.mul_comm] at e
        exact lawA_j0 (-wv a0_2 a0_3 / a0_1) a0_1 (-wv a0_2 a0_3) (by omega) (by omega) (by omega) (by omega) (by omega)
  · have hS : 9223372036854775808 * a0_1 < wv a0_2 a0_3 := by omega
    have hV : meanV a0_1 (wv a0_2 a0_3) a0_6 = (0, 4) := by
      unfold meanV
      rw [if_neg h1, if_pos hS, if_pos (Int.le_of_lt hS), ite_self]
    rw [hV] at hm
    refine fromA ?_
    unfold law4A.f
    exact Ev.bind hm (Ev.neg h1 (Ev.bind0 (bigInt_f hc) (Ev.neg h2 (Ev.bind awakeMean_f (Ev.pos rfl (Ev.pos rfl (Ev.some_ rfl)))))))
end Go.Proofs.Ythokkogdkpmdcaa.Pure
