/- LedgerParts, the plain law. -/
import Derived.Test.YticihbccflflfaaPlainLedger
namespace Go.Proofs.Yticihbccflflfaa.Pure
open Go.RowKit Go.Proofs.Yticihbccflflfaa.PAll Go.Proofs.Yticihbccflflfaa.Opn Go.Proofs.Yticihbccflflfaa.Base Go.Proofs.Yticihbccflflfaa.Plain Go.Proofs.YticihbccflflfaaW.PrintWords Go.Proofs.YticihbccflflfaaW.PrintLast Go.Proofs.YticihbccflflfaaW.PrintMore
set_option linter.unusedVariables false
set_option linter.unusedSimpArgs false
theorem sgn_res (u : Int) : wd (sgn (resS u).2.2 (wv (resS u).1 (resS u).2.1)) = wd u := by
  unfold resS sgn
  by_cases h : negB u = true
  · rw [if_pos h]
    show wd (if true = true then -(wv (wd (-u)).1 (wd (-u)).2) else _) = _
    rw [if_pos rfl, wv_wd]
    exact wd_mod (by omega)
  · rw [if_neg h]
    show wd (if false = true then _ else wv (wd u).1 (wd u).2) = _
    rw [if_neg (by decide), wv_wd]
    exact wd_mod (by omega)
theorem negB_mod {u v : Int} (h : wd u = wd v) : negB u = negB v := by
  have h1 := wv_wd u
  have h2 := wv_wd v
  rw [h] at h1
  unfold negB
  rw [← h1, ← h2]
theorem wd_add {a b c d : Int} (h1 : wd a = wd c) (h2 : wd b = wd d) : wd (a + b) = wd (c + d) := by
  have e1 := wv_wd a
  have e2 := wv_wd c
  have e3 := wv_wd b
  have e4 := wv_wd d
  rw [h1] at e1
  rw [h2] at e3
  exact wd_mod (by omega)
theorem wd_sub {a b c d : Int} (h1 : wd a = wd c) (h2 : wd b = wd d) : wd (a - b) = wd (c - d) := by
  have e1 := wv_wd a
  have e2 := wv_wd c
  have e3 := wv_wd b
  have e4 := wv_wd d
  rw [h1] at e1
  rw [h2] at e3
  exact wd_mod (by omega)
theorem wd_neg {a c : Int} (h1 : wd a = wd c) : wd (-a) = wd (-c) := by
  have := wd_sub (a := 0) (c := 0) rfl h1
  rwa [Int.zero_sub, Int.zero_sub] at this
theorem resS_mod {u v : Int} (h : wd u = wd v) : resS u = resS v := by
  unfold resS
  rw [negB_mod h, h, wd_neg h]
theorem wd_of_res (u : Int) : wd (wv (resS u).1 (resS u).2.1) = ((resS u).1, (resS u).2.1) := by
  unfold resS
  split
  · exact wd_wv (wd_in _).1 (wd_in _).2
  · exact wd_wv (wd_in _).1 (wd_in _).2
theorem wd_of_wd (u : Int) : wd (wv (wd u).1 (wd u).2) = wd u := wd_wv (wd_in _).1 (wd_in _).2
/-- A bin's count. -/
theorem bump_get (c : List Int) (n j : Nat) (h : j < c.length) : (bump c n).getD j 0 = c.getD j 0 + if n = j then 1 else 0 := by
  unfold bump
  simp only [List.getD_eq_getElem?_getD, List.getElem?_set]
  by_cases e : n = j
  · subst e
    rw [if_pos rfl, if_pos h, if_pos rfl]; rfl
  · rw [if_neg e, if_neg e, Int.add_zero]
def cB (lo hi : Int) (es : List Int) (j : Nat) (l : List Int) : Int := (l.map fun x => if binN es (clampV lo hi x) = j then (1 : Int) else 0).sum
theorem cB_cons (lo hi : Int) (es : List Int) (j : Nat) (x : Int) (l : List Int) : cB lo hi es j (x :: l) = (if binN es (clampV lo hi x) = j then (1 : Int) else 0) + cB lo hi es j l := by simp [cB]
theorem cB_append (lo hi : Int) (es : List Int) (j : Nat) (a b : List Int) : cB lo hi es j (a ++ b) = cB lo hi es j a + cB lo hi es j b := by simp [cB]
theorem counts_at (lo hi : Int) (es : List Int) (j : Nat) : ∀ (l c : List Int), j < c.length → (counts lo hi es c l).getD j 0 = c.getD j 0 + cB lo hi es j l
  | [], c, h => by simp [counts, cB]
  | x :: l, c, h => by
    have ih := counts_at lo hi es j l (bump c (binN es (clampV lo hi x))) (by rw [bump_length]; exact h)
    show (counts lo hi es (bump c (binN es (clampV lo hi x))) l).getD j 0 = _
    rw [ih, bump_get _ _ _ h, cB_cons]
    omega
theorem zeros_at (es : List Int) (j : Nat) : (zeros es).getD j 0 = 0 := by
  unfold zeros
  rw [List.getD_eq_getElem?_getD, List.getElem?_replicate]
  split <;> rfl
theorem counts_z (lo hi : Int) (es l : List Int) (j : Nat) (h : j < es.length + 1) : (counts lo hi es (zeros es) l).getD j 0 = cB lo hi es j l := by
  rw [counts_at _ _ _ _ _ _ (by rw [zeros_length]; exact h), zeros_at, Int.zero_add]
theorem cB_in (lo hi : Int) (es : List Int) (j : Nat) : ∀ l : List Int, 0 ≤ cB lo hi es j l ∧ cB lo hi es j l ≤ l.length
  | [] => by simp [cB]
  | x :: l => by
    have := cB_in lo hi es j l
    rw [cB_cons, List.length_cons]
    split <;> omega
theorem zip_get (op : Int → Int → Int) (a b : List Int) (j : Nat) (ha : j < a.length) (hb : j < b.length) : (zipO op a b).getD j 0 = op (a.getD j 0) (b.getD j 0) := by
  unfold zipO
  simp only [List.getD_eq_getElem?_getD, List.getElem?_zipWith, List.getElem?_eq_getElem ha, List.getElem?_eq_getElem hb]
  rfl
theorem list_ext_getD {a b : List Int} (hl : a.length = b.length) (h : ∀ j, j < a.length → a.getD j 0 = b.getD j 0) : a = b := by
  refine List.ext_getElem hl fun j h1 h2 => ?_
  have := h j h1
  simpa [List.getD, List.getElem?_eq_getElem h1, List.getElem?_eq_getElem h2] using this
theorem counts_add (lo hi : Int) (es a b : List Int) (ha : a.length ≤ 100) (hb : b.length ≤ 100) : zipO opA (counts lo hi es (zeros es) a) (counts lo hi es (zeros es) b) = counts lo hi es (zeros es) (a ++ b) := by
  have l1 : ∀ x : List Int, (counts lo hi es (zeros es) x).length = es.length + 1 := fun x => by rw [counts_length, zeros_length]
  refine list_ext_getD (by unfold zipO; rw [List.length_zipWith, l1, l1, l1, Nat.min_self]) fun j hj => ?_
  have hj' : j < es.length + 1 := by unfold zipO at hj; rw [List.length_zipWith, l1, l1, Nat.min_self] at hj; exact hj
  rw [zip_get _ _ _ _ (by rw [l1]; exact hj') (by rw [l1]; exact hj'), counts_z _ _ _ _ _ hj', counts_z _ _ _ _ _ hj', counts_z _ _ _ _ _ hj', cB_append]
  have h1 := cB_in lo hi es j a
  have h2 := cB_in lo hi es j b
  unfold opA
  exact w64 (by omega)
theorem counts_sub (lo hi : Int) (es a b : List Int) (ha : a.length ≤ 100) (hb : b.length ≤ 100) : zipO opS (counts lo hi es (zeros es) (a ++ b)) (counts lo hi es (zeros es) a) = counts lo hi es (zeros es) b := by
  have l1 : ∀ x : List Int, (counts lo hi es (zeros es) x).length = es.length + 1 := fun x => by rw [counts_length, zeros_length]
  refine list_ext_getD (by unfold zipO; rw [List.length_zipWith, l1, l1, l1, Nat.min_self]) fun j hj => ?_
  have hj' : j < es.length + 1 := by unfold zipO at hj; rw [List.length_zipWith, l1, l1, Nat.min_self] at hj; exact hj
  rw [zip_get _ _ _ _ (by rw [l1]; exact hj') (by rw [l1]; exact hj'), counts_z _ _ _ _ _ hj', counts_z _ _ _ _ _ hj', counts_z _ _ _ _ _ hj', cB_append]
  have h1 := cB_in lo hi es j a
  have h2 := cB_in lo hi es j b
  unfold opS
  rw [w64 (by omega)]
  omega
theorem right_counts (lo hi : Int) (es a : List Int) (ha : a.length ≤ 200) : rightB (counts lo hi es (zeros es) a) a.length = true := by
  unfold rightB
  rw [Bool.and_eq_true]
  refine ⟨(okC_iff _).2 (by omega), List.all_eq_true.2 fun x hx => (okC_iff _).2 ?_⟩
  have := counts_in lo hi es a (zeros es) 0 (zeros_length es) (fun v hv => zeros_in es v hv) x hx
  omega
theorem sumC_append (lo hi : Int) (a b : List Int) : sumC lo hi (a ++ b) = sumC lo hi a + sumC lo hi b := by simp [sumC]
theorem sqC_append (lo hi : Int) (a b : List Int) : sqC lo hi (a ++ b) = sqC lo hi a + sqC lo hi b := by simp [sqC]
theorem statsV_eq (lo hi : Int) (es l : List Int) : statsV lo hi es (zeros es) l l.length 0 0 = (counts lo hi es (zeros es) l, (l.length : Int), (resS (sumC lo hi l)).1, (resS (sumC lo hi l)).2.1, (wd (sqC lo hi l)).1, (wd (sqC lo hi l)).2, (resS (sumC lo hi l)).2.2) := by
  unfold statsV
  rw [Int.zero_add, Int.zero_add]
theorem add_stats (lo hi : Int) (es a b : List Int) (ha : a.length ≤ 100) (hb : b.length ≤ 100) (he : es.length ≤ 64) :
    Ev (fun k => ledger_Add.f k (counts lo hi es (zeros es) a) (a.length : Int) (resS (sumC lo hi a)).1 (resS (sumC lo hi a)).2.1 (wd (sqC lo hi a)).1 (wd (sqC lo hi a)).2 (resS (sumC lo hi a)).2.2 (counts lo hi es (zeros es) b) (b.length : Int) (resS (sumC lo hi b)).1 (resS (sumC lo hi b)).2.1 (wd (sqC lo hi b)).1 (wd (sqC lo hi b)).2 (resS (sumC lo hi b)).2.2)
      (counts lo hi es (zeros es) (a ++ b), ((a ++ b).length : Int), (resS (sumC lo hi (a ++ b))).1, (resS (sumC lo hi (a ++ b))).2.1, (wd (sqC lo hi (a ++ b))).1, (wd (sqC lo hi (a ++ b))).2, (resS (sumC lo hi (a ++ b))).2.2, 0) := by
  have l1 : ∀ x : List Int, (counts lo hi es (zeros es) x).length = es.length + 1 := fun x => by rw [counts_length, zeros_length]
  have h := ladd_f (counts lo hi es (zeros es) a) a.length (wv (resS (sumC lo hi a)).1 (resS (sumC lo hi a)).2.1) (sqC lo hi a) (resS (sumC lo hi a)).2.2 (counts lo hi es (zeros es) b) b.length (wv (resS (sumC lo hi b)).1 (resS (sumC lo hi b)).2.1) (sqC lo hi b) (resS (sumC lo hi b)).2.2 (by rw [l1]; omega) (by rw [l1]; omega)
  rw [wd_of_res, wd_of_res] at h
  unfold wayV at h
  have hc : opA (a.length : Int) (b.length : Int) = ((a ++ b).length : Int) := by unfold opA; rw [w64 (by omega), List.length_append]; omega
  have hs : resS (sgn (resS (sumC lo hi a)).2.2 (wv (resS (sumC lo hi a)).1 (resS (sumC lo hi a)).2.1) + sgn (resS (sumC lo hi b)).2.2 (wv (resS (sumC lo hi b)).1 (resS (sumC lo hi b)).2.1)) = resS (sumC lo hi (a ++ b)) := by
    rw [sumC_append]
    exact resS_mod (wd_add (sgn_res _) (sgn_res _))
  rw [if_pos (by rw [l1, l1]), if_pos (by rw [right_counts lo hi es a (by omega), right_counts lo hi es b (by omega)]; rfl), counts_add lo hi es a b ha hb, hc, if_pos (right_counts lo hi es (a ++ b) (by rw [List.length_append]; omega))] at h
  simp only [] at h
  rw [hs, ← sqC_append] at h
  exact h
theorem sub_stats (lo hi : Int) (es a b : List Int) (ha : a.length ≤ 100) (hb : b.length ≤ 100) (he : es.length ≤ 64) :
    Ev (fun k => ledger_Sub.f k (counts lo hi es (zeros es) (a ++ b)) ((a ++ b).length : Int) (resS (sumC lo hi (a ++ b))).1 (resS (sumC lo hi (a ++ b))).2.1 (wd (sqC lo hi (a ++ b))).1 (wd (sqC lo hi (a ++ b))).2 (resS (sumC lo hi (a ++ b))).2.2 (counts lo hi es (zeros es) a) (a.length : Int) (resS (sumC lo hi a)).1 (resS (sumC lo hi a)).2.1 (wd (sqC lo hi a)).1 (wd (sqC lo hi a)).2 (resS (sumC lo hi a)).2.2)
      (counts lo hi es (zeros es) b, (b.length : Int), (resS (sumC lo hi b)).1, (resS (sumC lo hi b)).2.1, (wd (sqC lo hi b)).1, (wd (sqC lo hi b)).2, (resS (sumC lo hi b)).2.2, 0) := by
  have l1 : ∀ x : List Int, (counts lo hi es (zeros es) x).length = es.length + 1 := fun x => by rw [counts_length, zeros_length]
  have h := lsub_f (counts lo hi es (zeros es) (a ++ b)) (a ++ b).length (wv (resS (sumC lo hi (a ++ b))).1 (resS (sumC lo hi (a ++ b))).2.1) (sqC lo hi (a ++ b)) (resS (sumC lo hi (a ++ b))).2.2 (counts lo hi es (zeros es) a) a.length (wv (resS (sumC lo hi a)).1 (resS (sumC lo hi a)).2.1) (sqC lo hi a) (resS (sumC lo hi a)).2.2 (by rw [l1]; omega) (by rw [l1]; omega)
  rw [wd_of_res, wd_of_res] at h
  unfold wayV at h
  have hc : opS ((a ++ b).length : Int) (a.length : Int) = (b.length : Int) := by unfold opS; rw [List.length_append, w64 (by omega)]; omega
  have hs : resS (sgn (resS (sumC lo hi (a ++ b))).2.2 (wv (resS (sumC lo hi (a ++ b))).1 (resS (sumC lo hi (a ++ b))).2.1) - sgn (resS (sumC lo hi a)).2.2 (wv (resS (sumC lo hi a)).1 (resS (sumC lo hi a)).2.1)) = resS (sumC lo hi b) := by
    refine (resS_mod (wd_sub (sgn_res _) (sgn_res _))).trans ?_
    rw [sumC_append]
    congr 1
    omega
  have hq : sqC lo hi (a ++ b) - sqC lo hi a = sqC lo hi b := by rw [sqC_append]; omega
  rw [if_pos (by rw [l1, l1]), if_pos (by rw [right_counts lo hi es (a ++ b) (by rw [List.length_append]; omega), right_counts lo hi es a (by omega)]; rfl), counts_sub lo hi es a b ha hb, hc, if_pos (right_counts lo hi es b (by omega))] at h
  simp only [] at h
  rw [hs, hq] at h
  exact h
theorem ref_stats (lo hi most : Int) (es l : List Int) (hs : soundE lo hi most es = 0) (hlm : l.length ≤ 1000000) : Ev (fun k => offertoryref09_Stats.f k lo hi most es l) (counts lo hi es (zeros es) l, (l.length : Int), (resS (sumC lo hi l)).1, (resS (sumC lo hi l)).2.1, (wd (sqC lo hi l)).1, (wd (sqC lo hi l)).2, (resS (sumC lo hi l)).2.2) := by
  rw [← statsV_eq]
  exact refStats_f lo hi most es l hs hlm
theorem LedgerParts (a0_0 : Int) (a0_1 : Int) (a0_2 : Int) (l0_3 : List Int) (l1 : List Int) (l2 : List Int) (w0_0 : (Lit.int .i64 a0_0).wf = true) (w0_1 : (Lit.int .i64 a0_1).wf = true) (w0_2 : (Lit.int .i64 a0_2).wf = true) (w0_3 : (SliceOk 8 (fun n => (Lit.int .i64 n).wf = true)) l0_3) (ok1 : (SliceOk 8 (fun n => (Lit.int .i64 n).wf = true)) l1) (ok2 : (SliceOk 8 (fun n => (Lit.int .i64 n).wf = true)) l2) : ∃ k, offertorylaw29_LedgerParts.f k a0_0 a0_1 a0_2 l0_3 l1 l2 = some true := by
  have h1 := i64_of w0_0
  have h2 := i64_of w0_1
  refine Ev.rounds ?_
  unfold offertorylaw29_LedgerParts.f
  refine Ev.bind (refSound_f _ _ _ _ h1 h2) (Ev.if_ (fun hc => ?_) (fun _ => awake_f))
  obtain ⟨hs, ha, hb⟩ := hc
  obtain ⟨a1, a2, a3, a4, a5, a6, a7, a8⟩ := sound0 hs
  have hcl : ∀ x : List Int, (counts a0_0 a0_1 l0_3 (zeros l0_3) x).length = l0_3.length + 1 := fun x => by rw [counts_length, zeros_length]
  refine Ev.bind (ref_stats a0_0 a0_1 a0_2 l0_3 l1 hs (by omega)) (Ev.bind (ref_stats a0_0 a0_1 a0_2 l0_3 l2 hs (by omega)) (Ev.bind (ref_stats a0_0 a0_1 a0_2 l0_3 (l1 ++ l2) hs (by rw [List.length_append]; omega)) (Ev.bind (add_stats a0_0 a0_1 l0_3 l1 l2 ha hb a8) (Ev.bind (sub_stats a0_0 a0_1 l0_3 l1 l2 ha hb a8) (Ev.bind awake_f ?_)))))
  exact Ev.bind (refSame_f _ _ _ _ _ _ _ _ _ _ _ _ _ _ (by show (counts a0_0 a0_1 l0_3 (zeros l0_3) (l1 ++ l2)).length ≤ _; rw [hcl]; omega)) (Ev.bind (refSame_f _ _ _ _ _ _ _ _ _ _ _ _ _ _ (by show (counts a0_0 a0_1 l0_3 (zeros l0_3) l2).length ≤ _; rw [hcl]; omega)) (Ev.pos ⟨rfl, rfl, rfl, sameB_self _ _ _ _ _ _ _, sameB_self _ _ _ _ _ _ _⟩ (Ev.now _)))
end Go.Proofs.Yticihbccflflfaa.Pure
