/- LedgerSums, the plain law. -/
import Derived.Test.YticihbccflflfaaPAllx2
import Derived.Test.YticihbccflflfaaPAllx4
import Derived.Test.YticihbccflflfaaPAllx6
import Derived.Test.YticihbccflflfaaPAllx8
import Derived.Test.YticihbccflflfaaPAllx9
import Derived.Test.YticihbccflflfaaPAllx10
import Derived.Test.YticihbccflflfaaPAllx12

import Derived.Test.YticihbccflflfaaPlainLedgerBoth
namespace Go.Proofs.Yticihbccflflfaa.PAll
open Go.RowKit Go.Proofs.YticihbccflflfaaW.PrintWords Go.Proofs.YticihbccflflfaaW.PrintLast Go.Proofs.YticihbccflflfaaW.PrintMore
theorem k27_heap : Kd.Heap k27 := ⟨fun hb h => by
  obtain ⟨A0, c0, rfl, l0, g0⟩ := k27_open h
  exact k27_mk _ _ l0 ((⟨fun _ h => h⟩ : Kd.Heap (Kd.int .i64)).C hb g0)⟩
end Go.Proofs.Yticihbccflflfaa.PAll
namespace Go.Proofs.Yticihbccflflfaa.Pure
open Go.RowKit Go.Proofs.Yticihbccflflfaa.PAll Go.Proofs.Yticihbccflflfaa.Opn Go.Proofs.Yticihbccflflfaa.Base Go.Proofs.Yticihbccflflfaa.Plain Go.Proofs.YticihbccflflfaaW.PrintWords Go.Proofs.YticihbccflflfaaW.PrintLast Go.Proofs.YticihbccflflfaaW.PrintMore
set_option linter.unusedVariables false
set_option linter.unusedSimpArgs false
abbrev R8 := List Int × Int × Int × Int × Int × Int × Bool × Int
/-- Stats whose numbers are wide ones. -/
def GoodS (s : S27) : Prop := ∃ u q, s.f2.f0 = (wd u).1 ∧ s.f2.f1 = (wd u).2 ∧ s.f3.f0 = (wd q).1 ∧ s.f3.f1 = (wd q).2
/-- All together, one by one. -/
def sumV : List S27 → R8 → Option R8
  | [], a => some a
  | s :: r, a => (offertorylaw29_both.f a.1 a.2.1 a.2.2.1 a.2.2.2.1 a.2.2.2.2.1 a.2.2.2.2.2.1 a.2.2.2.2.2.2.1 s.f0 s.f1 s.f2.f0 s.f2.f1 s.f3.f0 s.f3.f1 s.f4 false).bind fun x => if x.2.2.2.2.2.2.2 = 0 then sumV r x else some ([], 0, 0, 0, 0, 0, false, x.2.2.2.2.2.2.2)
def GoodA (a : R8) : Prop := a.1.length ≤ 1000 ∧ ∃ u q, a.2.2.1 = (wd u).1 ∧ a.2.2.2.1 = (wd u).2 ∧ a.2.2.2.2.1 = (wd q).1 ∧ a.2.2.2.2.2.1 = (wd q).2
theorem one_step (a : R8) (s : S27) (ha : GoodA a) (hs : GoodS s) (hl : s.f0.length ≤ 17592186044000) : ∃ x : R8, GoodA x ∧ (x.2.2.2.2.2.2.2 ≠ 0 → x = ([], 0, 0, 0, 0, 0, false, x.2.2.2.2.2.2.2)) ∧ offertorylaw29_both.f a.1 a.2.1 a.2.2.1 a.2.2.2.1 a.2.2.2.2.1 a.2.2.2.2.2.1 a.2.2.2.2.2.2.1 s.f0 s.f1 s.f2.f0 s.f2.f1 s.f3.f0 s.f3.f1 s.f4 false = some x ∧
    Ev (fun k => ledger_Add.f k a.1 a.2.1 a.2.2.1 a.2.2.2.1 a.2.2.2.2.1 a.2.2.2.2.2.1 a.2.2.2.2.2.2.1 s.f0 s.f1 s.f2.f0 s.f2.f1 s.f3.f0 s.f3.f1 s.f4) x := by
  obtain ⟨h1, u, q, e1, e2, e3, e4⟩ := ha
  obtain ⟨u', q', e1', e2', e3', e4'⟩ := hs
  rw [e1, e2, e3, e4, e1', e2', e3', e4']
  have hb := both_f false a.1 a.2.1 u q a.2.2.2.2.2.2.1 s.f0 s.f1 u' q' s.f4 (by omega)
  rw [oc_false, og_false] at hb
  refine ⟨_, ⟨Nat.le_trans (wayV_len _ _ _ _ _ _ _ _ _ _ _ _) h1, wayV_wide _ _ _ _ _ _ _ _ _ _ _ _⟩, ?_, hb, ladd_f _ _ _ _ _ _ _ _ _ _ (by omega) (by omega)⟩
  unfold wayV
  split
  · split
    · split
      · intro h; exact absurd rfl h
      · intro _; rfl
    · intro _; rfl
  · intro _; rfl
theorem sumV_some : ∀ (l : List S27) (a : R8), GoodA a → a.2.2.2.2.2.2.2 = 0 → (∀ s ∈ l, GoodS s ∧ s.f0.length ≤ 17592186044000) → ∃ x, sumV l a = some x ∧ GoodA x
  | [], a, ha, _, _ => ⟨a, rfl, ha⟩
  | s :: l, a, ha, h0, hl => by
    obtain ⟨x, hx, hz, hb, hA⟩ := one_step a s ha (hl s (List.mem_cons_self ..)).1 (hl s (List.mem_cons_self ..)).2
    unfold sumV
    rw [hb]
    simp only [Option.bind_some]
    by_cases h : x.2.2.2.2.2.2.2 = 0
    · rw [if_pos h]
      exact sumV_some l x hx h (fun y hy => hl y (List.mem_cons_of_mem _ hy))
    · rw [if_neg h]
      refine ⟨_, rfl, Nat.zero_le _, 0, 0, rfl, rfl, rfl, rfl⟩
theorem rdT (l : List S27) (i : Nat) (h : i < l.length) : rd_T27 l (i : Int) = l[i] := by
  unfold rd_T27
  rw [Int.toNat_natCast]
  simp [List.getD, List.getElem?_eq_getElem h]
theorem sum_l1 (l : List S27) (hm : l.length ≤ 12) (hl : ∀ s ∈ l, GoodS s ∧ s.f0.length ≤ 17592186044000) : ∀ (d i : Nat) (a x : R8), i + d = l.length → GoodA a → a.2.2.2.2.2.2.2 = 0 → sumV (l.drop i) a = some x →
    Ev (fun k => ledger_Sum.l1 k l (l.length : Int) (i : Int) a.1 a.2.1 a.2.2.1 a.2.2.2.1 a.2.2.2.2.1 a.2.2.2.2.2.1 a.2.2.2.2.2.2.1) x := by
  intro d
  induction d with
  | zero =>
    intro i a x hi ha h0 hx
    rw [List.drop_eq_nil_of_le (by omega)] at hx
    obtain rfl := Option.some.inj hx
    refine Ev.succ ?_
    simp only [ledger_Sum.l1]
    refine Ev.neg (by omega) (Ev.some_ ?_)
    rw [← h0]
  | succ d ih =>
    intro i a x hi ha h0 hx
    have hlt : i < l.length := by omega
    rw [List.drop_eq_getElem_cons hlt] at hx
    obtain ⟨y, hy, hz, hb, hA⟩ := one_step a l[i] ha (hl _ (List.getElem_mem hlt)).1 (hl _ (List.getElem_mem hlt)).2
    unfold sumV at hx
    rw [hb] at hx
    simp only [Option.bind_some] at hx
    refine Ev.succ ?_
    simp only [ledger_Sum.l1, rdT l i hlt]
    refine Ev.pos (by omega) (Ev.pos (by omega) (Ev.pos (by omega) (Ev.bind hA ?_)))
    by_cases h : y.2.2.2.2.2.2.2 = 0
    · rw [if_pos h] at hx
      refine Ev.pos h ?_
      rw [w64 (by omega)]
      exact ih (i + 1) y x (by omega) hy h hx
    · rw [if_neg h] at hx
      exact Ev.neg h (Ev.some_ (Option.some.inj hx))
def okLen (bins : Int) (l : List S27) : Bool := l.all fun s => decide ((s.f0.length : Int) = bins)
theorem sum_l0 (bins : Int) (l : List S27) (hm : l.length ≤ 12) (hb : 0 ≤ bins ∧ bins ≤ 256) (hl : ∀ s ∈ l, GoodS s ∧ s.f0.length ≤ 17592186044000) (x : R8) (hx : sumV l (List.replicate bins.toNat 0, 0, 0, 0, 0, 0, false, 0) = some x) : ∀ (d i : Nat), i + d = l.length →
    Ev (fun k => ledger_Sum.l0 k bins l l (l.length : Int) (i : Int)) (if okLen bins (l.drop i) = true then x else ([], 0, 0, 0, 0, 0, false, 1)) := by
  intro d
  induction d with
  | zero =>
    intro i hi
    refine Ev.succ ?_
    simp only [ledger_Sum.l0]
    refine Ev.neg (by omega) (Ev.pos hb.1 (Ev.pos (by omega) ?_))
    rw [List.drop_eq_nil_of_le (by omega)]
    have := sum_l1 l hm hl l.length 0 (List.replicate bins.toNat 0, 0, 0, 0, 0, 0, false, 0) x (by omega) ⟨by show (List.replicate bins.toNat (0 : Int)).length ≤ 1000; rw [List.length_replicate]; omega, 0, 0, rfl, rfl, rfl, rfl⟩ rfl (by rw [List.drop_zero]; exact hx)
    exact this
  | succ d ih =>
    intro i hi
    have hlt : i < l.length := by omega
    refine Ev.succ ?_
    simp only [ledger_Sum.l0, rdT l i hlt]
    refine Ev.pos (by omega) (Ev.pos (by omega) (Ev.pos (by omega) ?_))
    rw [List.drop_eq_getElem_cons hlt]
    unfold okLen
    rw [List.all_cons]
    by_cases h : (l[i].f0.length : Int) = bins
    · rw [decide_eq_true h, Bool.true_and]
      refine Ev.pos h ?_
      rw [w64 (by omega)]
      exact ih (i + 1) (by omega)
    · rw [decide_eq_false h, Bool.false_and]
      exact Ev.neg h (Ev.some_ (by rw [if_neg (by decide)]))
def sumAll (bins : Int) (l : List S27) (x : R8) : R8 := if 0 ≤ bins ∧ bins ≤ 256 then (if okLen bins l = true then x else ([], 0, 0, 0, 0, 0, false, 1)) else ([], 0, 0, 0, 0, 0, false, 1)
theorem sum_f (bins : Int) (l : List S27) (hm : l.length ≤ 12) (hl : ∀ s ∈ l, GoodS s ∧ s.f0.length ≤ 17592186044000) (x : R8) (hx : 0 ≤ bins ∧ bins ≤ 256 → sumV l (List.replicate bins.toNat 0, 0, 0, 0, 0, 0, false, 0) = some x) :
    Ev (fun k => ledger_Sum.f k bins l) (sumAll bins l x) := by
  unfold ledger_Sum.f sumAll
  refine Ev.if_ (fun h => ?_) (fun h => ?_)
  · rw [if_neg (by omega)]
    refine Ev.succ ?_
    simp only [ledger_Sum.j0]
    exact Ev.pos (by first | rfl | trivial) (Ev.some_ rfl)
  · refine Ev.succ ?_
    simp only [ledger_Sum.j0]
    by_cases h2 : bins > 256
    · rw [if_neg (by omega)]
      exact Ev.pos (decide_eq_true h2) (Ev.some_ rfl)
    · rw [if_pos (by omega)]
      refine Ev.neg (by simpa using h2) ?_
      have := sum_l0 bins l hm (by omega) hl x (hx (by omega)) l.length 0 (by omega)
      rw [List.drop_zero] at this
      exact this
theorem law_j6_bad (x6 x7 : Int) (h : x7 ≠ 0) (x y : R8) (h6 : x6 = x7) (hx : x = ([], 0, 0, 0, 0, 0, false, x6)) : Ev (fun k => offertorylaw29_LedgerSums.j6 k x6 x7 x.1 x.2.1 x.2.2.1 x.2.2.2.1 x.2.2.2.2.1 x.2.2.2.2.2.1 x.2.2.2.2.2.2.1 y.1 y.2.1 y.2.2.1 y.2.2.2.1 y.2.2.2.2.1 y.2.2.2.2.2.1 y.2.2.2.2.2.2.1) true := by
  subst h6
  refine Ev.succ ?_
  simp only [offertorylaw29_LedgerSums.j6]
  refine Ev.neg h (Ev.bind awake_f (Ev.pos (by first | rfl | trivial) (Ev.pos (by first | rfl | trivial) ?_)))
  rw [hx]
  exact Ev.bind (refSame_f _ _ _ _ _ _ _ _ _ _ _ _ _ _ (Nat.zero_le _)) (Ev.some_ (sameB_self _ _ _ _ _ _ _))
theorem law_l1 (l : List S27) (hm : l.length ≤ 12) (hl : ∀ s ∈ l, GoodS s ∧ s.f0.length ≤ 17592186044000) : ∀ (d i : Nat) (a x : R8), i + d = l.length → GoodA a → a.2.2.2.2.2.2.2 = 0 → sumV (l.drop i) a = some x →
    Ev (fun k => offertorylaw29_LedgerSums.l1 k l x.2.2.2.2.2.2.2 0 (i : Int) x.1 x.2.1 x.2.2.1 x.2.2.2.1 x.2.2.2.2.1 x.2.2.2.2.2.1 x.2.2.2.2.2.2.1 a.1 a.2.1 a.2.2.1 a.2.2.2.1 a.2.2.2.2.1 a.2.2.2.2.2.1 a.2.2.2.2.2.2.1) true := by
  intro d
  induction d with
  | zero =>
    intro i a x hi ha h0 hx
    rw [List.drop_eq_nil_of_le (by omega)] at hx
    obtain rfl := Option.some.inj hx
    refine Ev.succ ?_
    simp only [offertorylaw29_LedgerSums.l1]
    refine Ev.neg (by omega) (Ev.succ ?_)
    simp only [offertorylaw29_LedgerSums.j6]
    refine Ev.pos (by first | rfl | trivial) (Ev.bind awake_f (Ev.pos (by first | rfl | trivial) (Ev.pos h0 ?_)))
    exact Ev.bind (refSame_f _ _ _ _ _ _ _ _ _ _ _ _ _ _ (Nat.le_trans ha.1 (by decide))) (Ev.some_ (sameB_self _ _ _ _ _ _ _))
  | succ d ih =>
    intro i a x hi ha h0 hx
    have hlt : i < l.length := by omega
    rw [List.drop_eq_getElem_cons hlt] at hx
    obtain ⟨y, hy, hz, hb, hA⟩ := one_step a l[i] ha (hl _ (List.getElem_mem hlt)).1 (hl _ (List.getElem_mem hlt)).2
    unfold sumV at hx
    rw [hb] at hx
    simp only [Option.bind_some] at hx
    refine Ev.succ ?_
    simp only [offertorylaw29_LedgerSums.l1, rdT l i hlt]
    refine Ev.pos (by omega) (Ev.pos (by first | rfl | trivial) (Ev.pos (by omega) (Ev.bind0 hb ?_)))
    rw [w64 (by omega)]
    by_cases h : y.2.2.2.2.2.2.2 = 0
    · rw [if_pos h] at hx
      have := ih (i + 1) y x (by omega) hy h hx
      rw [h]
      exact this
    · rw [if_neg h] at hx
      obtain rfl := Option.some.inj hx
      refine Ev.succ ?_
      simp only [offertorylaw29_LedgerSums.l1]
      have hj := law_j6_bad y.2.2.2.2.2.2.2 y.2.2.2.2.2.2.2 h ([], 0, 0, 0, 0, 0, false, y.2.2.2.2.2.2.2) y rfl rfl
      refine Ev.if_ (fun _ => Ev.neg h hj) (fun _ => hj)
theorem law_bad (l : List S27) (e : Int) (x : R8) (y : R8) (he : e ≠ 0) (hx : x = ([], 0, 0, 0, 0, 0, false, e)) (i : Int) : Ev (fun k => offertorylaw29_LedgerSums.l1 k l x.2.2.2.2.2.2.2 e i x.1 x.2.1 x.2.2.1 x.2.2.2.1 x.2.2.2.2.1 x.2.2.2.2.2.1 x.2.2.2.2.2.2.1 y.1 y.2.1 y.2.2.1 y.2.2.2.1 y.2.2.2.2.1 y.2.2.2.2.2.1 y.2.2.2.2.2.2.1) true := by
  refine Ev.succ ?_
  simp only [offertorylaw29_LedgerSums.l1]
  have hj := law_j6_bad e e he x y rfl hx
  have e8 : x.2.2.2.2.2.2.2 = e := by rw [hx]
  rw [e8]
  exact Ev.if_ (fun _ => Ev.neg he hj) (fun _ => hj)
theorem law_l0 (bins : Int) (l : List S27) (hm : l.length ≤ 12) (hl : ∀ s ∈ l, GoodS s ∧ s.f0.length ≤ 17592186044000) (x : R8) (hb : 0 ≤ bins ∧ bins ≤ 256)
    (hx : okLen bins l = true → sumV l (List.replicate bins.toNat 0, 0, 0, 0, 0, 0, false, 0) = some x) (hz : okLen bins l = false → x = ([], 0, 0, 0, 0, 0, false, 1)) : ∀ (d i : Nat) (f : Int), i + d = l.length → (f = 0 ∨ f = 1) → (okLen bins l = true ↔ (f = 0 ∧ okLen bins (l.drop i) = true)) →
    Ev (fun k => offertorylaw29_LedgerSums.l0 k bins l x.2.2.2.2.2.2.2 f (i : Int) x.1 x.2.1 x.2.2.1 x.2.2.2.1 x.2.2.2.2.1 x.2.2.2.2.2.1 x.2.2.2.2.2.2.1) true := by
  intro d
  induction d with
  | zero =>
    intro i f hi hf hiff
    refine Ev.succ ?_
    simp only [offertorylaw29_LedgerSums.l0]
    refine Ev.neg (by omega) ?_
    rw [List.drop_eq_nil_of_le (by omega)] at hiff
    refine Ev.if_ (fun h => ?_) (fun h => ?_)
    · subst h
      refine Ev.pos hb.1 (Ev.pos (by omega) (Ev.succ ?_))
      simp only [offertorylaw29_LedgerSums.j4]
      have hok : okLen bins l = true := hiff.2 ⟨rfl, rfl⟩
      exact law_l1 l hm hl l.length 0 (List.replicate bins.toNat 0, 0, 0, 0, 0, 0, false, 0) x (by omega) ⟨by show (List.replicate bins.toNat (0 : Int)).length ≤ 1000; rw [List.length_replicate]; omega, 0, 0, rfl, rfl, rfl, rfl⟩ rfl (by rw [List.drop_zero]; exact hx hok)
    · refine Ev.succ ?_
      simp only [offertorylaw29_LedgerSums.j4]
      have hf1 : f = 1 := by omega
      subst hf1
      have hno : okLen bins l = false := by
        cases ho : okLen bins l with
        | false => rfl
        | true => exact absurd (hiff.1 ho).1 (by decide)
      exact law_bad l 1 x ([], 0, 0, 0, 0, 0, false, 0) (by decide) (hz hno) 0
  | succ d ih =>
    intro i f hi hf hiff
    have hlt : i < l.length := by omega
    refine Ev.succ ?_
    simp only [offertorylaw29_LedgerSums.l0, rdT l i hlt]
    refine Ev.pos (by omega) (Ev.pos (by omega) ?_)
    have hd : okLen bins (l.drop i) = (decide ((l[i].f0.length : Int) = bins) && okLen bins (l.drop (i + 1))) := by
      rw [List.drop_eq_getElem_cons hlt]
      rfl
    rw [hd] at hiff
    rw [w64 (by omega)]
    refine Ev.if_ (fun h => ?_) (fun h => ?_)
    · rw [decide_eq_true h, Bool.true_and] at hiff
      exact ih (i + 1) f (by omega) hf hiff
    · rw [decide_eq_false h, Bool.false_and] at hiff
      exact ih (i + 1) 1 (by omega) (Or.inr rfl) ⟨fun ho => absurd (hiff.1 ho).2 (by decide), fun ho => absurd ho.1 (by decide)⟩
theorem sums_j0 (bins : Int) (l : List S27) (hm : l.length ≤ 12) (hl : ∀ s ∈ l, GoodS s ∧ s.f0.length ≤ 17592186044000) : Ev (fun k => offertorylaw29_LedgerSums.j0 k bins l) true := by
  obtain ⟨x, hx⟩ : ∃ x : R8, 0 ≤ bins ∧ bins ≤ 256 → sumV l (List.replicate bins.toNat 0, 0, 0, 0, 0, 0, false, 0) = some x := by
    by_cases hb : 0 ≤ bins ∧ bins ≤ 256
    · obtain ⟨x, h, _⟩ := sumV_some l (List.replicate bins.toNat 0, 0, 0, 0, 0, 0, false, 0) ⟨by show (List.replicate bins.toNat (0 : Int)).length ≤ 1000; rw [List.length_replicate]; omega, 0, 0, rfl, rfl, rfl, rfl⟩ rfl hl
      exact ⟨x, fun _ => h⟩
    · exact ⟨([], 0, 0, 0, 0, 0, false, 0), fun h => absurd h hb⟩
  refine Ev.succ ?_
  simp only [offertorylaw29_LedgerSums.j0]
  refine Ev.bind (sum_f bins l hm hl x hx) ?_
  by_cases hb : 0 ≤ bins ∧ bins ≤ 256
  · have e : sumAll bins l x = if okLen bins l = true then x else ([], 0, 0, 0, 0, 0, false, 1) := by unfold sumAll; rw [if_pos hb]
    rw [e]
    refine Ev.neg (by omega) (Ev.succ ?_)
    simp only [offertorylaw29_LedgerSums.j1]
    refine Ev.neg (by simp; omega) (Ev.succ ?_)
    simp only [offertorylaw29_LedgerSums.j2]
    exact law_l0 bins l hm hl _ hb (fun ho => by rw [if_pos ho]; exact hx hb) (fun ho => by rw [if_neg (by rw [ho]; decide)]) l.length 0 0 (by omega) (Or.inl rfl) (by rw [List.drop_zero]; exact ⟨fun h => ⟨rfl, h⟩, fun h => h.2⟩)
  · have e : sumAll bins l x = ([], 0, 0, 0, 0, 0, false, 1) := by unfold sumAll; rw [if_neg hb]
    rw [e]
    have hbad : ∀ i : Int, Ev (fun k => offertorylaw29_LedgerSums.l1 k l 1 1 i ([] : List Int) 0 0 0 0 0 false ([] : List Int) 0 0 0 0 0 false) true := fun i => law_bad l 1 ([], 0, 0, 0, 0, 0, false, 1) ([], 0, 0, 0, 0, 0, false, 0) (by decide) rfl i
    have hl0 : ∀ (d i : Nat), i + d = l.length → Ev (fun k => offertorylaw29_LedgerSums.l0 k bins l 1 1 (i : Int) ([] : List Int) 0 0 0 0 0 false) true := by
      intro d
      induction d with
      | zero =>
        intro i hi
        refine Ev.succ ?_
        simp only [offertorylaw29_LedgerSums.l0]
        refine Ev.neg (by omega) (Ev.neg (by decide) (Ev.succ ?_))
        simp only [offertorylaw29_LedgerSums.j4]
        exact hbad 0
      | succ d ih =>
        intro i hi
        have hlt : i < l.length := by omega
        refine Ev.succ ?_
        simp only [offertorylaw29_LedgerSums.l0]
        refine Ev.pos (by omega) (Ev.pos (by omega) ?_)
        rw [w64 (by omega)]
        exact Ev.if_ (fun _ => ih (i + 1) (by omega)) (fun _ => ih (i + 1) (by omega))
    have hj1 : Ev (fun k => offertorylaw29_LedgerSums.j1 k bins l 1 0 true ([] : List Int) 0 0 0 0 0 false) true := by
      refine Ev.succ ?_
      simp only [offertorylaw29_LedgerSums.j1]
      refine Ev.pos (by first | rfl | trivial) (Ev.succ ?_)
      simp only [offertorylaw29_LedgerSums.j2]
      exact hl0 l.length 0 (by omega)
    refine Ev.if_ (fun h => hj1) (fun h => ?_)
    rw [decide_eq_true (show bins > 256 by omega)]
    exact hj1
theorem LedgerSums (a0 : Int) (l1 : List S27) (w0 : (Lit.int .i64 a0).wf = true) (ok1 : (SliceOk 72 (fun b : S27 => (fun v => (SliceOk 8 (fun n => (Lit.int .i64 n).wf = true)) v.1 ∧ (fun v => (fun n => (Lit.int .i64 n).wf = true) v.1 ∧ (fun v => (fun b : S25 => (fun v => (fun n => (Lit.int .u64 n).wf = true) v.1 ∧ (fun n => (Lit.int .u64 n).wf = true) v.2) ((b.f0, b.f1))) v.1 ∧ (fun v => (fun b : S25 => (fun v => (fun n => (Lit.int .u64 n).wf = true) v.1 ∧ (fun n => (Lit.int .u64 n).wf = true) v.2) ((b.f0, b.f1))) v.1 ∧ (fun _ => True) v.2) v.2) v.2) v.2) ((b.f0, (b.f1, (b.f2, (b.f3, b.f4))))))) l1) : ∃ k, offertorylaw29_LedgerSums.f k a0 l1 = some true := by
  have hl : ∀ s ∈ l1, GoodS s ∧ s.f0.length ≤ 17592186044000 := fun s hs => by
    obtain ⟨h0, h1, ⟨h2, h3⟩, ⟨h4, h5⟩, _⟩ := ok1.2.2 s hs
    obtain ⟨u, e1, e2⟩ := wide_of h2 h3
    obtain ⟨q, e3, e4⟩ := wide_of h4 h5
    have hh := h0.1
    exact ⟨⟨u, q, e1.symm, e2.symm, e3.symm, e4.symm⟩, by have : s.f0.length * 8 ≤ 140737488351232 := hh; omega⟩
  refine Ev.rounds ?_
  unfold offertorylaw29_LedgerSums.f
  refine Ev.if_ (fun h => Ev.pos (by omega) ?_) (fun h => ?_)
  · exact sums_j0 a0 (l1.take 12) (by rw [List.length_take]; omega) (fun s hs => hl s (List.mem_of_mem_take hs))
  · exact sums_j0 a0 l1 (by omega) hl
end Go.Proofs.Yticihbccflflfaa.Pure
