/- CrowdOf, without the program. -/
import Derived.Test.YtegifiagobienaaDoorPlainCrowdSet
namespace Go.Proofs.YtegifiagobienaaDoor.Pure
open Go.RowKit Go.Proofs.YtegifiagobienaaDoor.PAll Go.Proofs.YtegifiagobienaaDoor.Opn Go.Proofs.YtegifiagobienaaDoor.Base Go.Proofs.YtegifiagobienaaDoor.Plain Go.Proofs.YtegifiagobienaaDoorW.PrintWords Go.Proofs.YtegifiagobienaaDoorW.PrintLast Go.Proofs.YtegifiagobienaaDoorW.PrintMore
set_option linter.unusedVariables false

theorem cnt_or : ∀ (n p x : Nat), p < n → x.testBit p = false → cnt n (x ||| 2 ^ p) = cnt n x + 1
  | 0, p, x, h, _ => by omega
  | n + 1, 0, x, h, hb => by
    have hc : ∀ n x, cnt (n + 1) x = x % 2 + cnt n (x / 2) := fun _ _ => rfl
    have e1 : (x ||| 2 ^ 0) % 2 = 1 := by
      have := Nat.testBit_or x (2 ^ 0) 0
      rw [Nat.testBit_zero, Nat.testBit_two_pow_self, Bool.or_true] at this
      exact of_decide_eq_true this
    have e2 : (x ||| 2 ^ 0) / 2 = x / 2 := by
      apply Nat.eq_of_testBit_eq; intro i
      rw [← Nat.testBit_succ, ← Nat.testBit_succ, Nat.testBit_or, Nat.testBit_two_pow]
      simp
    have e3 : x % 2 = 0 := by
      rw [Nat.testBit_zero] at hb
      have := of_decide_eq_false hb
      omega
    rw [hc, hc, e1, e2, e3]
    omega
  | n + 1, p + 1, x, h, hb => by
    have hc : ∀ n x, cnt (n + 1) x = x % 2 + cnt n (x / 2) := fun _ _ => rfl
    have ih := cnt_or n p (x / 2) (by omega) (by rw [Nat.testBit_succ] at hb; exact hb)
    have e1 : (x ||| 2 ^ (p + 1)) % 2 = x % 2 := by
      have := Nat.testBit_or x (2 ^ (p + 1)) 0
      rw [Nat.testBit_zero, Nat.testBit_zero, Nat.testBit_two_pow] at this
      simp only [Nat.add_eq_zero_iff, Nat.one_ne_zero, and_false, decide_false, Bool.or_false] at this
      rcases Nat.mod_two_eq_zero_or_one x with h0 | h0 <;> rcases Nat.mod_two_eq_zero_or_one (x ||| 2 ^ (p + 1)) with h1 | h1 <;> simp only [h0, h1] at this ⊢ <;> exact absurd this (by decide)
    have e2 : (x ||| 2 ^ (p + 1)) / 2 = x / 2 ||| 2 ^ p := by
      apply Nat.eq_of_testBit_eq; intro i
      rw [← Nat.testBit_succ, Nat.testBit_or, Nat.testBit_or, Nat.testBit_two_pow, Nat.testBit_two_pow, Nat.testBit_succ]
      simp
    rw [hc, hc, e1, e2, ih]
    omega
/-- The marks and the set tell the same. -/
def Rel (hs : List Bool) (c : Nat) : Prop := hs.length = 65 ∧ c < 18446744073709551616 ∧ ∀ m, m < 64 → hs.getD (m + 1) false = c.testBit m
theorem Rel.set {hs : List Bool} {c m : Nat} (h : Rel hs c) (hm : m < 64) : Rel (hs.set (m + 1) true) (c ||| 2 ^ m) := by
  obtain ⟨h0, h1, h2⟩ := h
  refine ⟨by simp [h0], lt_of_bits _ fun i hi => ?_, fun j hj => ?_⟩
  · rw [Nat.testBit_or, high_bit h1 hi, Nat.testBit_two_pow]
    simp; omega
  · rw [Nat.testBit_or, ← h2 j hj, Nat.testBit_two_pow]
    by_cases e : m = j
    · subst e
      simp [List.getD, h0, show m + 1 < 65 by omega]
    · simp [List.getD, e]
theorem scan_l1 (l : List Int) (hl : l.length ≤ 17592186044416) (hin : l.all inr = true) : ∀ (d i c : Nat), i + d = l.length → Rel (stA (l.take i) 0).1 c → (stA (l.take i) 0).2 = 0 → (L c).length = i →
    ∃ c' e', Ev (fun k => crowd_Of.l1 k (c : Int) l (l.length : Int) (i : Int)) (c', e') ∧ ((stA l 0).2 = 0 ∧ e' = 0 ∧ (∃ cn : Nat, c' = (cn : Int) ∧ Rel (stA l 0).1 cn ∧ (L cn).length = l.length) ∨ (stA l 0).2 = 8 ∧ e' = 8 ∧ c' = 0) := by
  intro d
  induction d with
  | zero =>
    intro i c hi hR hz hL
    rw [List.take_of_length_le (by omega)] at hR hz
    refine ⟨(c : Int), 0, Ev.succ ?_, Or.inl ⟨hz, rfl, c, rfl, hR, by omega⟩⟩
    simp only [crowd_Of.l1]
    exact Ev.neg (by omega) (Ev.some_ rfl)
  | succ d ih =>
    intro i c hi hR hz hL
    have hlt : i < l.length := by omega
    have hx : inr l[i] = true := List.all_eq_true.1 hin _ (List.getElem_mem hlt)
    have es := stA_succ l 0 i hlt
    have eg : rd l (i : Int) = l[i] := rd_get l i hlt
    generalize l[i] = x at hx es eg
    obtain ⟨x1, x2⟩ : 1 ≤ x ∧ x ≤ 64 := by unfold inr at hx; simpa using hx
    obtain ⟨m, rfl⟩ : ∃ m : Nat, x = (m : Int) + 1 := ⟨(x - 1).toNat, by omega⟩
    have hm : m < 64 := by omega
    have hb := hR.2.2 m hm
    have hh : hasB c ((m : Int) + 1) = c.testBit m := by
      unfold hasB
      rw [show ((m : Int) + 1 - 1).toNat = m by omega, decide_eq_true (by omega), Bool.true_and]
    have et : ((m : Int) + 1).toNat = m + 1 := by omega
    have hstp : stA (l.take (i + 1)) 0 = ((stA (l.take i) 0).1.set (m + 1) true, if c.testBit m = true then 8 else 0) := by
      rw [es]; unfold stp; rw [if_pos hz, et, hb]
    cases hc : c.testBit m
    · rw [hc, if_neg (by decide)] at hstp
      have hp63 := two_le_nat (a := m) (b := 63) (by omega)
      have hR' := hR.set hm
      rw [show (stA (l.take i) 0).1.set (m + 1) true = (stA (l.take (i + 1)) 0).1 by rw [hstp]] at hR'
      have hL' : (L (c ||| 2 ^ m)).length = i + 1 := by
        unfold L at hL ⊢
        rw [lst_length] at hL ⊢
        rw [cnt_or 64 m c hm hc, hL]
      obtain ⟨c', e', hev, hres⟩ := ih (i + 1) (c ||| 2 ^ m) (by omega) hR' (by rw [hstp]) hL'
      refine ⟨c', e', Ev.succ ?_, hres⟩
      simp only [crowd_Of.l1]
      refine Ev.pos (by omega) (Ev.pos (by omega) (Ev.pos (by omega) ?_))
      rw [eg]
      refine Ev.bind0 (has_f c _ hR.2.1) ?_
      rw [hh, hc]
      refine Ev.neg (by decide) (Ev.bind0 (bit_f' m hm) ?_)
      rw [bits_or_u64_nat c (2 ^ m) hR.2.1 (by omega), w64 (by omega)]
      exact hev
    · rw [hc, if_pos rfl] at hstp
      have hst := stA_stay l 0 (i + 1) (by rw [hstp]; exact (by decide : (8 : Int) ≠ 0))
      refine ⟨0, 8, Ev.succ ?_, Or.inr ⟨by rw [hst, hstp], rfl, rfl⟩⟩
      simp only [crowd_Of.l1]
      refine Ev.pos (by omega) (Ev.pos (by omega) (Ev.pos (by omega) ?_))
      rw [eg]
      refine Ev.bind0 (has_f c _ hR.2.1) ?_
      rw [hh, hc]
      exact Ev.pos rfl (Ev.some_ rfl)
theorem scan_l0 (l : List Int) (hl : l.length ≤ 17592186044416) (hin : l.all inr = true) (r : Int × Int) (h : Ev (fun k => crowd_Of.l1 k 0 l (l.length : Int) 0) r) : ∀ (d i : Nat), i + d = l.length → Ev (fun k => crowd_Of.l0 k l 0 l (l.length : Int) (i : Int)) r := by
  intro d
  induction d with
  | zero =>
    intro i hi
    refine Ev.succ ?_
    simp only [crowd_Of.l0]
    exact Ev.neg (by omega) h
  | succ d ih =>
    intro i hi
    have hlt : i < l.length := by omega
    have hx : inr l[i] = true := List.all_eq_true.1 hin _ (List.getElem_mem hlt)
    obtain ⟨x1, x2⟩ : 1 ≤ l[i] ∧ l[i] ≤ 64 := by unfold inr at hx; simpa using hx
    refine Ev.succ ?_
    simp only [crowd_Of.l0]
    rw [rd_get l i hlt]
    refine Ev.pos (by omega) (Ev.pos (by omega) (Ev.pos (by omega) (Ev.neg (by omega) (Ev.neg (by omega) ?_))))
    rw [w64 (by omega)]
    exact ih (i + 1) (by omega)
theorem scan_bad (l : List Int) (hl : l.length ≤ 17592186044416) (hin : l.all inr = false) : ∀ (d i : Nat), i + d = l.length → (l.take i).all inr = true → Ev (fun k => crowd_Of.l0 k l 0 l (l.length : Int) (i : Int)) (0, 4) := by
  intro d
  induction d with
  | zero =>
    intro i hi ht
    rw [List.take_of_length_le (by omega), hin] at ht
    cases ht
  | succ d ih =>
    intro i hi ht
    have hlt : i < l.length := by omega
    refine Ev.succ ?_
    simp only [crowd_Of.l0]
    rw [rd_get l i hlt]
    refine Ev.pos (by omega) (Ev.pos (by omega) (Ev.pos (by omega) ?_))
    refine Ev.if_ (fun h => Ev.some_ rfl) (fun h1 => Ev.if_ (fun h => Ev.some_ rfl) (fun h2 => ?_))
    rw [w64 (by omega)]
    refine ih (i + 1) (by omega) ?_
    rw [List.take_succ_eq_append_getElem hlt, List.all_append, ht]
    simp [inr]
    omega
theorem CrowdOf (l0 : List Int) (a1 : Int) (w0 : SliceOk 8 (fun n => (Lit.int .i64 n).wf = true) l0) (w1 : (Lit.int .i64 a1).wf = true) : ∃ k, offertorylaw18_CrowdOf.f k l0 a1 = some true := by
  have hl : l0.length ≤ 17592186044416 := by have := w0.1; omega
  have h1 := i64_of w1
  refine Ev.rounds (g := fun k => offertorylaw18_CrowdOf.f k l0 a1) ?_
  unfold offertorylaw18_CrowdOf.f
  refine Ev.pos hl ?_
  cases hin : l0.all inr
  · have hw : wantA l0 = 4 := by unfold wantA; rw [hin]; rfl
    have hst : stA l0 4 = (List.replicate 65 false, 4) := stp_stay _ _ (by decide)
    refine Ev.bind (a := (0, 4)) (by unfold crowd_Of.f; exact scan_bad l0 hl hin l0.length 0 (by omega) rfl) ?_
    refine Ev.bind awake_f (Ev.bind0 (size_f 0 (by decide)) (Ev.bind0 (hass_f 0 a1 (by decide)) ?_))
    refine Ev.pos rfl (Ev.pos ?_ (Ev.some_ rfl))
    unfold offertorylaw18_CrowdOf.good
    rw [hw, hst]
    rfl
  · have hw : wantA l0 = 0 := by unfold wantA; rw [hin]; rfl
    obtain ⟨c', e', hev, hres⟩ := scan_l1 l0 hl hin l0.length 0 0 (by omega) ⟨by show (List.replicate 65 false).length = 65; simp, by decide, fun m hm => by
      rw [Nat.zero_testBit]
      show (List.replicate 65 false).getD (m + 1) false = false
      have all : ∀ m : Fin 64, (List.replicate 65 false).getD (m.val + 1) false = false := by decide
      exact all ⟨m, hm⟩⟩ rfl (by decide)
    refine Ev.bind (a := (c', e')) (by unfold crowd_Of.f; exact scan_l0 l0 hl hin _ hev l0.length 0 (by omega)) ?_
    refine Ev.bind awake_f ?_
    rcases hres with ⟨hz, rfl, cn, rfl, hR, hL⟩ | ⟨hz, rfl, rfl⟩
    · refine Ev.bind0 (size_f cn hR.2.1) (Ev.bind0 (hass_f cn a1 hR.2.1) (Ev.pos rfl (Ev.pos ?_ (Ev.some_ rfl))))
      unfold offertorylaw18_CrowdOf.good
      rw [hw, if_pos hz, hL, decide_eq_true rfl, decide_eq_true rfl, Bool.true_and, Bool.true_and, beq_iff_eq]
      unfold hasB
      by_cases ha : 1 ≤ a1 ∧ a1 ≤ 64
      · have := hR.2.2 (a1 - 1).toNat (by omega)
        rw [show (a1 - 1).toNat + 1 = a1.toNat by omega] at this
        rw [decide_eq_true ha, decide_eq_true ha.1, decide_eq_true ha.2, this]
        rfl
      · rw [decide_eq_false ha]
        by_cases h2 : 1 ≤ a1
        · rw [decide_eq_false (p := a1 ≤ 64) (fun h => ha ⟨h2, h⟩)]; simp
        · rw [decide_eq_false h2]; simp
    · refine Ev.bind0 (size_f 0 (by decide)) (Ev.bind0 (hass_f 0 a1 (by decide)) (Ev.pos rfl (Ev.pos ?_ (Ev.some_ rfl))))
      unfold offertorylaw18_CrowdOf.good
      rw [hw, if_neg (by rw [hz]; decide), hz]
      rfl
end Go.Proofs.YtegifiagobienaaDoor.Pure
