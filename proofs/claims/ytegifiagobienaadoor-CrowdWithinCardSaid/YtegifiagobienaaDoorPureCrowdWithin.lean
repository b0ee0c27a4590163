/- CrowdWithin, without the program. -/
import Derived.Test.YtegifiagobienaaDoorPlainCrowdSet
namespace Go.Proofs.YtegifiagobienaaDoor.Pure
open Go.RowKit Go.Proofs.YtegifiagobienaaDoor.PAll Go.Proofs.YtegifiagobienaaDoor.Opn Go.Proofs.YtegifiagobienaaDoor.Base Go.Proofs.YtegifiagobienaaDoor.Plain Go.Proofs.YtegifiagobienaaDoorW.PrintWords Go.Proofs.YtegifiagobienaaDoorW.PrintLast Go.Proofs.YtegifiagobienaaDoorW.PrintMore
set_option linter.unusedVariables false

/-- What the first so many list. -/
def upto : Nat → Nat → List Int
  | 0, _ => []
  | c + 1, i => ((i : Int) + 1) :: upto c (i + 1)
theorem lst_upto : ∀ (n c i : Nat), c ≤ n → lst n i (2 ^ c - 1) = upto c i
  | n, 0, i, _ => by rw [show 2 ^ 0 - 1 = 0 from rfl, lst_zero]; rfl
  | 0, c + 1, i, h => by omega
  | n + 1, c + 1, i, h => by
    have hp : 0 < 2 ^ c := Nat.pow_pos (by decide)
    have hl : ∀ x, lst (n + 1) i x = if x % 2 = 1 then ((i : Int) + 1) :: lst n (i + 1) (x / 2) else lst n (i + 1) (x / 2) := fun _ => rfl
    rw [hl, if_pos (by rw [Nat.pow_succ]; omega), show (2 ^ (c + 1) - 1) / 2 = 2 ^ c - 1 by rw [Nat.pow_succ]; omega, lst_upto n c (i + 1) (by omega)]
    rfl
theorem upto_length : ∀ (c i : Nat), (upto c i).length = c
  | 0, _ => rfl
  | c + 1, i => by unfold upto; rw [List.length_cons, upto_length c (i + 1)]
theorem upto_get : ∀ (c i j : Nat) (h : j < (upto c i).length), (upto c i)[j] = (i : Int) + j + 1
  | 0, i, j, h => by simp [upto] at h
  | c + 1, i, 0, h => by simp [upto]
  | c + 1, i, j + 1, h => by
    have := upto_get c (i + 1) j (by simpa [upto] using h)
    simp only [upto, List.getElem_cons_succ]
    rw [this]
    omega
theorem within_l1 (a b n : Nat) (want : Bool) (ha : a < 18446744073709551616) (hb : b < 18446744073709551616) (hn : n ≤ 64) (hw : inB a b = want) : ∀ (d i : Nat), i + d = n →
    Ev (fun k => offertorylaw18_CrowdWithin.l1 k (a : Int) (b : Int) want (n : Int) (upto n 0) (i : Int)) true := by
  have hl := upto_length n 0
  intro d
  induction d with
  | zero =>
    intro i hi
    refine Ev.succ ?_
    simp only [offertorylaw18_CrowdWithin.l1]
    refine Ev.neg (by omega) (Ev.bind awake_f (Ev.pos rfl (Ev.bind0 (within_f a b ha hb) (Ev.some_ ?_))))
    rw [hw]; simp
  | succ d ih =>
    intro i hi
    refine Ev.succ ?_
    simp only [offertorylaw18_CrowdWithin.l1]
    refine Ev.pos (by omega) (Ev.pos (by omega) (Ev.pos (by omega) (Ev.pos ?_ ?_)))
    · rw [rd_get _ i (by omega), upto_get, w64 (by omega)]; omega
    · rw [w64 (by omega)]
      exact ih (i + 1) (by omega)
theorem within_j1 (a b : Nat) (n : Int) (want : Bool) (ha : a < 18446744073709551616) (hb : b < 18446744073709551616) (hw : inB a b = want) (x : Int) (hx : x = if n < 0 then 0 else n) :
    Ev (fun k => offertorylaw18_CrowdWithin.j1 k (a : Int) (b : Int) n want x) true := by
  obtain ⟨c, hc, hf, he⟩ := all_f n
  have hlt : 2 ^ c - 1 < 18446744073709551616 := by
    have := two_le_nat hc
    have e : (2 : Nat) ^ 64 = 18446744073709551616 := rfl
    omega
  have hL : L (2 ^ c - 1) = upto c 0 := lst_upto 64 c 0 hc
  have key : Ev (fun k => offertorylaw18_CrowdWithin.j2 k (a : Int) (b : Int) n want (c : Int)) true := by
    refine Ev.succ ?_
    simp only [offertorylaw18_CrowdWithin.j2]
    refine Ev.bind0 hf ?_
    have := list_f _ hlt
    rw [hL] at this
    refine Ev.bind this ?_
    rw [upto_length]
    exact Ev.pos rfl (within_l1 a b c want ha hb hc hw c 0 (by omega))
  refine Ev.succ ?_
  simp only [offertorylaw18_CrowdWithin.j1]
  refine Ev.if_ (fun h => ?_) (fun h => ?_)
  · have : (c : Int) = 64 := by rw [he]; split at hx <;> omega
    rw [this] at key
    exact key
  · have : (c : Int) = x := by rw [he, hx]; split at hx <;> omega
    rw [this] at key
    exact key
theorem within_l0 (a b : Nat) (n : Int) (ha : a < 18446744073709551616) (hb : b < 18446744073709551616) : ∀ (d i : Nat), i + d = (L a).length →
    Ev (fun k => offertorylaw18_CrowdWithin.l0 k (a : Int) (b : Int) n (((L a).take i).all (hasB b)) (L a) (i : Int)) true := by
  have hL := L_len a
  intro d
  induction d with
  | zero =>
    intro i hi
    have hall : inB a b = ((L a).take i).all (hasB b) := by
      rw [List.take_of_length_le (by omega)]
      cases h : (L a).all (hasB b)
      · rw [List.all_eq_false] at h
        obtain ⟨m, hm, hf⟩ := h
        rw [mem_L] at hm
        obtain ⟨j, hj, hb1, rfl⟩ := hm
        cases h2 : inB a b
        · rfl
        · exfalso
          apply hf
          unfold hasB
          rw [show ((j : Int) + 1 - 1).toNat = j by omega, of_inB h2 j hb1, Bool.and_true]
          exact decide_eq_true (by omega)
      · rw [List.all_eq_true] at h
        refine inB_of fun j hj => ?_
        have hj64 : j < 64 := by
          apply Decidable.byContradiction
          intro hn
          rw [high_bit ha (by omega)] at hj
          cases hj
        have := h ((j : Int) + 1) ((mem_L a _).2 ⟨j, hj64, hj, rfl⟩)
        unfold hasB at this
        rw [show ((j : Int) + 1 - 1).toNat = j by omega, Bool.and_eq_true] at this
        exact this.2
    refine Ev.succ ?_
    simp only [offertorylaw18_CrowdWithin.l0]
    refine Ev.neg (by omega) (Ev.if_ (fun h => ?_) (fun h => ?_))
    · exact within_j1 a b n _ ha hb hall 0 (by rw [if_pos h])
    · exact within_j1 a b n _ ha hb hall n (by rw [if_neg h])
  | succ d ih =>
    intro i hi
    have hlt : i < (L a).length := by omega
    have ih' := ih (i + 1) (by omega)
    have et : ((L a).take (i + 1)).all (hasB b) = (((L a).take i).all (hasB b) && hasB b (rd (L a) (i : Int))) := by
      rw [List.take_succ_eq_append_getElem hlt, List.all_append, rd_get _ i hlt]
      simp
    rw [et] at ih'
    refine Ev.succ ?_
    simp only [offertorylaw18_CrowdWithin.l0]
    refine Ev.pos (by omega) (Ev.if_ (fun h => ?_) (fun h => ?_))
    · rw [h, Bool.true_and] at ih'
      refine Ev.pos (by omega) (Ev.bind0 (hass_f b _ hb) ?_)
      rw [w64 (by omega)]
      exact ih'
    · rw [Bool.eq_false_iff.2 h, Bool.false_and] at ih'
      rw [w64 (by omega)]
      exact ih'
theorem CrowdWithin (a0 : Int) (a1 : Int) (a2 : Int) (w0 : (Lit.int .u64 a0).wf = true) (w1 : (Lit.int .u64 a1).wf = true) (w2 : (Lit.int .i64 a2).wf = true) : ∃ k, offertorylaw18_CrowdWithin.f k a0 a1 a2 = some true := by
  have b0 := u64_of w0
  have b1 := u64_of w1
  obtain ⟨a, rfl⟩ := Int.eq_ofNat_of_zero_le b0.1
  obtain ⟨b, rfl⟩ := Int.eq_ofNat_of_zero_le b1.1
  refine Ev.rounds (g := fun k => offertorylaw18_CrowdWithin.f k a b a2) ?_
  unfold offertorylaw18_CrowdWithin.f
  refine Ev.bind (list_f a (by omega)) ?_
  have := within_l0 a b a2 (by omega) (by omega) (L a).length 0 (by omega)
  exact this
end Go.Proofs.YtegifiagobienaaDoor.Pure
