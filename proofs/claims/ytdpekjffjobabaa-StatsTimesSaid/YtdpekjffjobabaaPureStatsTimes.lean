/- StatsTimes, the plain law. -/
import Derived.Test.YtdpekjffjobabaaMergeTimes
namespace Go.Proofs.Ytdpekjffjobabaa.Pure
open Go.RowKit Go.Proofs.Ytdpekjffjobabaa.PAll Go.Proofs.Ytdpekjffjobabaa.Opn Go.Proofs.Ytdpekjffjobabaa.Base Go.Proofs.Ytdpekjffjobabaa.Plain Go.Proofs.YtdpekjffjobabaaW.PrintWords Go.Proofs.YtdpekjffjobabaaW.PrintLast Go.Proofs.YtdpekjffjobabaaW.PrintMore
set_option linter.unusedVariables false
set_option linter.unusedSimpArgs false
/-- A number without its sign. -/
def absW (u : Int) : Int := if negB u = true then -u else u
theorem resS_abs (u : Int) : (resS u).1 = (wd (absW u)).1 ∧ (resS u).2.1 = (wd (absW u)).2 ∧ (resS u).2.2 = negB u := by
  unfold resS absW
  cases h : negB u <;> simp
theorem negB_small {u : Int} (h : -170141183460469231731687303715884105728 ≤ u ∧ u < 170141183460469231731687303715884105728) : negB u = decide (u < 0) := by
  unfold negB
  refine decide_eq_decide.2 ?_
  omega
theorem neg_times {s t : Int} (hs : -1208925819614629174706176 ≤ s ∧ s ≤ 1208925819614629174706176) (h0 : 0 < t) (ht : t < 4294967296) : negB (s * t) = negB s ∧ absW (s * t) = absW s * t := by
  have b1 : s * t ≤ 1208925819614629174706176 * 4294967296 := by
    by_cases h : 0 ≤ s
    · exact Int.mul_le_mul hs.2 (by omega) (by omega) (by omega)
    · have := Int.mul_nonneg (a := -s) (b := t) (by omega) (by omega)
      rw [Int.neg_mul] at this
      omega
  have b2 : -(1208925819614629174706176 * 4294967296) ≤ s * t := by
    by_cases h : 0 ≤ s
    · have := Int.mul_nonneg h (Int.le_of_lt h0); omega
    · have := Int.mul_le_mul (a := -s) (b := t) (c := 1208925819614629174706176) (d := 4294967296) (by omega) (by omega) (by omega) (by omega)
      rw [Int.neg_mul] at this
      omega
  have e : negB (s * t) = negB s := by
    rw [negB_small (by omega), negB_small (by omega)]
    refine decide_eq_decide.2 ⟨fun h => ?_, fun h => ?_⟩
    · apply Decidable.byContradiction
      intro hn
      have := Int.mul_nonneg (a := s) (b := t) (by omega) (by omega)
      omega
    · have := Int.mul_le_mul_of_nonneg_right (show s ≤ -1 by omega) (Int.le_of_lt h0)
      omega
  refine ⟨e, ?_⟩
  unfold absW
  rw [e]
  split
  · rw [Int.neg_mul]
  · rfl
theorem sumC_in {lo hi : Int} (h : lo ≤ hi) : ∀ l : List Int, l.length * lo ≤ sumC lo hi l ∧ sumC lo hi l ≤ l.length * hi
  | [] => by simp [sumC]
  | x :: l => by
    have ih := sumC_in h l
    have hc := clampV_in h x
    rw [sumC_cons, List.length_cons, Int.natCast_add, Int.add_mul, Int.add_mul]
    omega
theorem mul_of (a t : Int) (ht : 0 ≤ t ∧ t < 4294967296) : ∃ d, offertoryref09_Of.f (wd a).1 (wd a).2 = some d ∧ ∃ e, offertoryref09_Mul.f d.1 d.2.1 d.2.2.1 d.2.2.2.1 d.2.2.2.2.1 d.2.2.2.2.2.1 d.2.2.2.2.2.2.1 d.2.2.2.2.2.2.2 (bigD t 0) (bigD t 1) (bigD t 2) (bigD t 3) (bigD t 4) (bigD t 5) (bigD t 6) (bigD t 7) = some e ∧
    offertoryref09_Big_Wide.f e.1 e.2.1 e.2.2.1 e.2.2.2.1 e.2.2.2.2.1 e.2.2.2.2.2.1 e.2.2.2.2.2.2.1 e.2.2.2.2.2.2.2 = some (wd (a * t)) := by
  refine ⟨digs a, ?_, digs (a * t), bigMul_f a t, bigWide_f (a * t)⟩
  rw [of_f (wd_in a).1 (wd_in a).2, wv_wd]
  congr 1
  exact digs_eq (by omega)
theorem times_l0 (lo hi most n : Int) (es l : List Int) (t : Int) (hs : soundE lo hi most es = 0) (hn : IsBits lo hi n) (hl0 : 0 < l.length) (hl : l.length ≤ 60) (h0 : 0 < t) (ht : l.length * t < 4294967296) :
    ∀ (d i : Nat) (v : List Int), i + d = es.length + 2 + 3 * n.toNat → v.length = es.length + 2 + 3 * n.toNat → (∀ m, v.getD m 0 = if m < i then conS lo hi es n.toNat l m * t else conS lo hi es n.toNat l m) →
    Ev (fun k => offertorylaw13_StatsTimes.l0 k l t v (i : Int) lo hi most es) true := by
  obtain ⟨a1, a2, a3, a4, a5, a6, a7, a8⟩ := sound0 hs
  have h40 := hn.le40 a4
  have hb : n.toNat ≤ 64 := by omega
  have ht2 : t < 4294967296 := by
    have := Int.mul_le_mul_of_nonneg_right (show (1 : Int) ≤ (l.length : Int) by omega) (Int.le_of_lt h0)
    omega
  intro d
  induction d with
  | zero =>
    intro i v hid hv hg
    refine Ev.succ ?_
    simp only [offertorylaw13_StatsTimes.l0]
    refine Ev.neg (by omega) ?_
    have hvt : v = vecT lo hi es n.toNat l t := list_ext _ _ (by rw [hv, vecT_length]) fun m hm => by rw [hg m, if_pos (by omega), vecT_get _ _ _ _ hb l (by omega)]
    rw [hvt]
    have hsc := sumC_in a3 l
    have hsb : -1208925819614629174706176 ≤ sumC lo hi l ∧ sumC lo hi l ≤ 1208925819614629174706176 := by
      have e1 : (l.length : Int) * -1099511627776 ≤ l.length * lo := Int.mul_le_mul_of_nonneg_left a1 (by omega)
      have e2 : (l.length : Int) * hi ≤ l.length * 1099511627776 := Int.mul_le_mul_of_nonneg_left a2 (by omega)
      omega
    obtain ⟨ng, ab⟩ := neg_times hsb h0 ht2
    obtain ⟨r1, r2, r3⟩ := resS_abs (sumC lo hi l)
    obtain ⟨q1, q2, q3⟩ := resS_abs (sumC lo hi l * t)
    rw [ab] at q1 q2
    have hst : statsV lo hi es (zeros es) l l.length 0 0 = (counts lo hi es (zeros es) l, (l.length : Int), (wd (absW (sumC lo hi l))).1, (wd (absW (sumC lo hi l))).2, (wd (sqC lo hi l)).1, (wd (sqC lo hi l)).2, negB (sumC lo hi l)) := by
      unfold statsV
      rw [Int.zero_add, Int.zero_add, r1, r2, r3]
    have hrs := refStats_f lo hi most es l hs (by omega)
    rw [hst] at hrs
    have hd := decodeT_f lo hi most n es l t hs hn (Int.le_of_lt h0) (by omega) ht
    rw [q1, q2, q3, ng] at hd
    have hof : offertoryref09_Of.f 0 (IntKind.u64.wrap t) = some (digs t) := by
      rw [wu64 (by omega), of_f (by unfold W64; omega) (by unfold W64; omega)]
      congr 2
      unfold wv
      omega
    obtain ⟨d1, o1, e1, m1, w1⟩ := mul_of (absW (sumC lo hi l)) t ⟨by omega, ht2⟩
    obtain ⟨d2, o2, e2, m2, w2⟩ := mul_of (sqC lo hi l) t ⟨by omega, ht2⟩
    refine Ev.bind hd (Ev.bind hrs (Ev.bind0 hof (Ev.bind awake_f (Ev.pos (by first | rfl | trivial) (Ev.pos rfl (Ev.pos ?_ (Ev.bind0 o1 (Ev.bind0 m1 (Ev.bind0 w1 (Ev.pos ?_ (Ev.bind0 o2 (Ev.bind0 m2 (Ev.bind0 w2 (Ev.pos ?_ (Ev.some_ ?_)))))))))))))))
    · show (l.length : Int) * t = wrap64 (l.length * wrap64 t)
      have := Int.mul_nonneg (a := (l.length : Int)) (b := t) (by omega) (by omega)
      rw [w64 (x := t) (by omega), w64 (by omega)]
    · simp
    · simp
    · simp
  | succ d ih =>
    intro i v hid hv hg
    refine Ev.succ ?_
    simp only [offertorylaw13_StatsTimes.l0, rd_nat, Int.toNat_natCast]
    refine Ev.pos (by omega) (Ev.pos (by omega) ?_)
    have hgi := hg i
    rw [if_neg (by omega)] at hgi
    have hct := conT_in (lo := lo) (hi := hi) (es := es) (b := n.toNat) (l := l) (t := t) (Int.le_of_lt h0) i
    rw [w64 (x := (i : Int) + 1) (by omega), hgi, Int.emod_eq_of_lt hct.1 (by omega)]
    refine ih (i + 1) _ (by omega) (by rw [List.length_set]; exact hv) fun m => ?_
    by_cases hm : m = i
    · subst hm
      rw [if_pos (by omega)]
      have : m < v.length := by omega
      simp [List.getD, this]
    · have : (v.set i (conS lo hi es n.toNat l i * t)).getD m 0 = v.getD m 0 := by simp [List.getD, List.getElem?_set, Ne.symm hm]
      rw [this, hg m]
      by_cases h2 : m < i
      · rw [if_pos h2, if_pos (by omega)]
      · rw [if_neg h2, if_neg (by omega)]
theorem times_j0 (lo hi most : Int) (es l : List Int) (t : Int) (b : Bool) (hs : soundE lo hi most es = 0) (hb : b = false → 0 < l.length ∧ l.length ≤ 60 ∧ 0 < t ∧ l.length * t < 4294967296) : Ev (fun k => offertorylaw13_StatsTimes.j0 k l t b lo hi most es) true := by
  obtain ⟨a1, a2, a3, a4, a5, a6, a7, a8⟩ := sound0 hs
  obtain ⟨n, hn⟩ := isBits_exists a3 a4
  have h40 := hn.le40 a4
  refine Ev.succ ?_
  simp only [offertorylaw13_StatsTimes.j0]
  cases b
  · obtain ⟨c1, c2, c3, c4⟩ := hb rfl
    refine Ev.neg (by decide) (Ev.bind (refEncode_f lo hi most n es l hs hn (by omega) (refLen_f lo hi most n es hn a3 a4 a8)) ?_)
    refine times_l0 lo hi most n es l t hs hn c1 c2 c3 c4 _ 0 _ (Nat.zero_add _) (vecE_length _ _ _ _ _) fun m => ?_
    have := conS_in lo hi es n.toNat m l
    rw [if_neg (by omega), vecE_get _ _ _ _ (by omega), Int.emod_eq_of_lt this.1 (by omega)]
  · exact Ev.pos (by first | rfl | trivial) (Ev.bind awake_f (Ev.now _))
theorem StatsTimes (a0_0 : Int) (a0_1 : Int) (a0_2 : Int) (l0_3 : List Int) (l1 : List Int) (a2 : Int) (w0_0 : (Lit.int .i64 a0_0).wf = true) (w0_1 : (Lit.int .i64 a0_1).wf = true) (w0_2 : (Lit.int .i64 a0_2).wf = true) (w0_3 : (SliceOk 8 (fun n => (Lit.int .i64 n).wf = true)) l0_3) (ok1 : (SliceOk 8 (fun n => (Lit.int .i64 n).wf = true)) l1) (w2 : (Lit.int .u32 a2).wf = true) : ∃ k, offertorylaw13_StatsTimes.f k a0_0 a0_1 a0_2 l0_3 l1 a2 = some true := by
  have h1 := i64_of w0_0
  have h2 := i64_of w0_1
  have h3 := u32_of w2
  refine Ev.rounds ?_
  unfold offertorylaw13_StatsTimes.f
  refine Ev.bind (refSound_f _ _ _ _ h1 h2) ?_
  by_cases h : soundE a0_0 a0_1 a0_2 l0_3 = 0
  · simp only [h, if_true]
    refine Ev.if_ (fun _ => times_j0 _ _ _ _ _ _ _ h (fun hh => by cases hh)) (fun hl => Ev.if_ (fun _ => times_j0 _ _ _ _ _ _ _ h (fun hh => by cases hh)) (fun hl2 => Ev.if_ (fun _ => times_j0 _ _ _ _ _ _ _ h (fun hh => by cases hh)) (fun ht => times_j0 _ _ _ _ _ _ _ h (fun hh => ?_))))
    have hlt := of_decide_eq_false hh
    have hb := Int.mul_le_mul (a := a2) (b := (l1.length : Int)) (c := 4294967295) (d := 60) h3.2 (by omega) (by omega) (by omega)
    have hp := Int.mul_nonneg (a := a2) (b := (l1.length : Int)) h3.1 (by omega)
    rw [wu64 (x := a2) (by omega), wu64 (x := (l1.length : Int)) (by omega), wu64 (by omega)] at hlt
    refine ⟨by omega, by omega, by omega, ?_⟩
    rw [Int.mul_comm]
    omega
  · simp only [h, if_false]
    refine Ev.succ ?_
    simp only [offertorylaw13_StatsTimes.j0]
    exact Ev.pos (by first | rfl | trivial) (Ev.bind awake_f (Ev.now _))
end Go.Proofs.Ytdpekjffjobabaa.Pure
