/- RankLies, the plain law. -/
import Derived.Test.YthokkogdkpmdcaaPAllx1
import Derived.Test.YthokkogdkpmdcaaPAllx2
import Derived.Test.YthokkogdkpmdcaaPAllx3
import Derived.Test.YthokkogdkpmdcaaPAllx4
import Derived.Test.YthokkogdkpmdcaaPAllx5
import Derived.Test.YthokkogdkpmdcaaPAllx6
import Derived.Test.YthokkogdkpmdcaaPAllx7
import Derived.Test.YthokkogdkpmdcaaPAllx8
import Derived.Test.YthokkogdkpmdcaaPAllx10

import Derived.Test.YthokkogdkpmdcaaPlainLies
namespace Go.Proofs.Ythokkogdkpmdcaa.Pure
open Go.RowKit Go.Proofs.Ythokkogdkpmdcaa.PAll Go.Proofs.Ythokkogdkpmdcaa.Opn Go.Proofs.Ythokkogdkpmdcaa.Base Go.Proofs.Ythokkogdkpmdcaa.Plain Go.Proofs.YthokkogdkpmdcaaW.PrintWords Go.Proofs.YthokkogdkpmdcaaW.PrintLast Go.Proofs.YthokkogdkpmdcaaW.PrintMore
set_option linter.unusedVariables false
set_option linter.unusedSimpArgs false
theorem in_of {l : List Int} (h : ∀ n ∈ l, (Lit.int .i64 n).wf = true) (j : Nat) : -9223372036854775808 ≤ l.getD j 0 ∧ l.getD j 0 ≤ 9223372036854775807 := by
  by_cases hj : j < l.length
  · have := i64_of (h _ (List.getElem_mem hj))
    simpa [List.getD, hj] using this
  · simp [List.getD, hj]
theorem mul50 {a c : Int} (ha : -1099511627776 ≤ a ∧ a ≤ 1099511627776) (hc : 0 ≤ c ∧ c ≤ 50) : -54975581388800 ≤ a * c ∧ a * c ≤ 54975581388800 := by
  have h1 := Int.mul_le_mul_of_nonneg_right ha.2 hc.1
  have h2 := Int.mul_le_mul_of_nonneg_right ha.1 hc.1
  omega
theorem lies (lo hi most : Int) (es L : List Int) (hs : soundE lo hi most es = 0) (hes : ∀ j, -9223372036854775808 ≤ es.getD j 0 ∧ es.getD j 0 ≤ 9223372036854775807) (h0 : 0 < L.length) (h50 : L.length ≤ 50) (n : Nat) (hn : n < L.length) :
    ∃ (st : List Int × Int × Int × Int × Int × Int × Bool) (o : List Int) (b u1 u2 m : Int), Ev (fun k => offertoryref09_Stats.f k lo hi most es L) st ∧ ordF lo hi most es L [] = some o ∧ Ev (fun k => rank_Rank.f k st.1 st.2.1 st.2.2.1 st.2.2.2.1 st.2.2.2.2.1 st.2.2.2.2.2.1 st.2.2.2.2.2.2 (n : Int)) (b, 0) ∧ Ev (fun k => rank_Bounds.f k lo hi most es b) (u1, u2, 0) ∧
      Ev (fun k => rank_Mean.f k st.1 st.2.1 st.2.2.1 st.2.2.2.1 st.2.2.2.2.1 st.2.2.2.2.2.1 st.2.2.2.2.2.2) (m, 0) ∧ u1 ≤ rd o (n : Int) ∧ rd o (n : Int) ≤ u2 ∧ rd o 0 ≤ m ∧ m ≤ rd o ((o.length : Int) - 1) := by
  obtain ⟨a1, a2, a3, a4, a5, a6, a7, a8⟩ := sound0 hs
  obtain ⟨o, ho1, ho2, ho3⟩ := ordF_f most es a3 L [] List.Pairwise.nil
  rw [List.append_nil] at ho3
  have hol : o.length = L.length := by rw [ho3.length_eq, List.length_map]
  have hn' : n < o.length := by omega
  have hin : ∀ y ∈ o, lo ≤ y ∧ y ≤ hi := fun y hy => by
    obtain ⟨x, _, rfl⟩ := List.mem_map.1 (ho3.mem_iff.1 hy)
    exact clampV_in a3 x
  have hy := hin o[n] (List.getElem_mem hn')
  have hb := binN_le es o[n]
  have hst := refStats_f lo hi most es L hs (by omega)
  have hsum : sumC lo hi L = o.sum := (sum_perm ho3).symm
  have hS1 := sum_ge lo o (fun y h => (hin y h).1)
  have hS2 := sum_le hi o (fun y h => (hin y h).2)
  have hm1 := mul50 (a := lo) (c := (o.length : Int)) (by omega) (by omega)
  have hm2 := mul50 (a := hi) (c := (o.length : Int)) (by omega) (by omega)
  have low : ∀ z : Int, (∀ y ∈ o, z ≤ y) → z ≤ o.sum / (L.length : Int) := fun z hz => by
    have h := sum_ge z o hz
    rw [hol] at h
    exact Int.le_ediv_of_mul_le (by omega) h
  have high : ∀ z : Int, (∀ y ∈ o, y ≤ z) → o.sum / (L.length : Int) ≤ z := fun z hz => by
    have h := sum_le z o hz
    rw [hol] at h
    have h2 : z * (L.length : Int) < (z + 1) * (L.length : Int) := by rw [Int.add_mul]; omega
    have h3 : o.sum / (L.length : Int) < z + 1 := Int.ediv_lt_of_lt_mul (by omega) (by omega)
    omega
  have hm := mean_small (S := o.sum) (c := (L.length : Int)) (by omega) (by omega)
  refine ⟨_, o, (binN es o[n] : Nat), lowB lo es (binN es o[n]), highB hi es (binN es o[n]), o.sum / (L.length : Int), hst, ho1, ?_, ?_, ?_, ?_, ?_, ?_, ?_⟩
  · unfold statsV
    simp only
    rw [← hol]
    refine rank_f (counts lo hi es (zeros es) L) o es _ _ _ _ _ (fun v hv => ?_) (by rw [counts_length, zeros_length]) a8 (by omega) (fun b hb => ?_) ?_ hn' ho2
    · have := counts_in lo hi es L (zeros es) 0 (zeros_length es) (zeros_in es) v hv
      omega
    · rw [counts_get lo hi es b L (zeros es) (zeros_length es), zeros_get, Int.zero_add, ho3.countP_eq]
    · rw [counts_sum lo hi es L _ (zeros_length es), zeros_sum, Int.zero_add, hol]
  · have hbr := rbounds_f lo hi most es (binN es o[n]) hs hb (by omega) (by omega) hes
    have hi2 := (in_iff (lo := lo) (hi := hi) a7 hb hy.1 hy.2).1 rfl
    unfold boundsR at hbr
    rw [if_neg (by omega)] at hbr
    exact hbr
  · have h := mean_f (statsV lo hi es (zeros es) L L.length 0 0).1 (L.length : Int) (resS (0 + sumC lo hi L)).1 (resS (0 + sumC lo hi L)).2.1 (wd (0 + sqC lo hi L)).1 (wd (0 + sqC lo hi L)).2 (resS (0 + sumC lo hi L)).2.2 (by omega) (by unfold resS; split <;> exact (wd_in _).1) (by unfold resS; split <;> exact (wd_in _).2)
    rw [Int.zero_add, hsum, hm] at h
    unfold statsV
    simp only
    rw [Int.zero_add, hsum]
    rw [Int.zero_add]
    rw [Int.zero_add] at h
    exact h
  · rw [rd_get o n hn']
    exact ((in_iff (lo := lo) (hi := hi) a7 hb hy.1 hy.2).1 rfl).1
  · rw [rd_get o n hn']
    exact ((in_iff (lo := lo) (hi := hi) a7 hb hy.1 hy.2).1 rfl).2
  · rw [show (0 : Int) = ((0 : Nat) : Int) from rfl, rd_get o 0 (by omega)]
    exact low _ (fun y hy => srt_drop ho2 (n := 0) (by omega) y (by rw [List.drop_zero]; exact hy))
  · rw [show (o.length : Int) - 1 = ((o.length - 1 : Nat) : Int) by omega, rd_get o (o.length - 1) (by omega)]
    exact high _ (fun y hy => srt_take ho2 (n := o.length - 1) (by omega) y (by rw [List.take_of_length_le (by omega)]; exact hy))
theorem RankLies (a0_0 : Int) (a0_1 : Int) (a0_2 : Int) (l0_3 : List Int) (l1 : List Int) (a2 : Int) (w0_0 : (Lit.int .i64 a0_0).wf = true) (w0_1 : (Lit.int .i64 a0_1).wf = true) (w0_2 : (Lit.int .i64 a0_2).wf = true) (w0_3 : (SliceOk 8 (fun n => (Lit.int .i64 n).wf = true)) l0_3) (ok1 : (SliceOk 8 (fun n => (Lit.int .i64 n).wf = true)) l1) (w2 : (Lit.int .u8 a2).wf = true) : ∃ k, offertorylaw28_RankLies.f k a0_0 a0_1 a0_2 l0_3 l1 a2 = some true := by
  have h1 := i64_of w0_0
  have h2 := i64_of w0_1
  have hk := u8_of w2
  refine Ev.rounds ?_
  unfold offertorylaw28_RankLies.f
  refine Ev.bind (refSound_f a0_0 a0_1 a0_2 l0_3 h1 h2) (Ev.if_ (fun hc => ?_) (fun hc => awake_f))
  obtain ⟨hs, hp⟩ := hc
  have h0 : 0 < (l1.take 50).length := by rw [List.length_take]; omega
  have h50 : (l1.take 50).length ≤ 50 := by rw [List.length_take]; omega
  generalize l1.take 50 = L at *
  have hn0 := Int.emod_nonneg a2 (b := (L.length : Int)) (by omega)
  have hn1 := Int.emod_lt_of_pos a2 (b := (L.length : Int)) (by omega)
  obtain ⟨n, hn⟩ := Int.eq_ofNat_of_zero_le hn0
  rw [hn]
  obtain ⟨st, o, b, u1, u2, m, e1, e2, e3, e4, e5, g1, g2, g3, g4⟩ := lies a0_0 a0_1 a0_2 l0_3 L hs (fun j => in_of w0_3.2.2 j) h0 h50 n (by omega)
  exact Ev.bind e1 (Ev.bind0 e2 (Ev.bind e3 (Ev.bind e4 (Ev.bind e5 (Ev.bind awake_f (Ev.pos ⟨hk, rfl, rfl, rfl, rfl, g1, g2, g3, g4⟩ (Ev.some_ rfl)))))))
end Go.Proofs.Ythokkogdkpmdcaa.Pure
