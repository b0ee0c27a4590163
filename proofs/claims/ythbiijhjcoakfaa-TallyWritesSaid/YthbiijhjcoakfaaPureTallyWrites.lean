/- TallyWrites, the plain law. -/
import Derived.Test.YthbiijhjcoakfaaPlainTallyRef
namespace Go.Proofs.Ythbiijhjcoakfaa.Pure
open Go.RowKit Go.Proofs.Ythbiijhjcoakfaa.PAll Go.Proofs.Ythbiijhjcoakfaa.Opn Go.Proofs.Ythbiijhjcoakfaa.Base Go.Proofs.Ythbiijhjcoakfaa.Plain Go.Proofs.YthbiijhjcoakfaaW.PrintWords Go.Proofs.YthbiijhjcoakfaaW.PrintLast Go.Proofs.YthbiijhjcoakfaaW.PrintMore
set_option linter.unusedVariables false
set_option linter.unusedSimpArgs false
theorem writes_j2 (l x : List Int) (e f lo hi most n : Int) (es : List Int) (hl : es.length ≤ 9223372036854775806) (h1 : -9223372036854775808 ≤ lo ∧ lo ≤ 9223372036854775807) (h2 : -9223372036854775808 ≤ hi ∧ hi ≤ 9223372036854775807) (hm : l.length ≤ 100000)
    (hok : f = 0 → e = 0 ∧ soundE lo hi most es = 0 ∧ IsBits lo hi n ∧ x = vecV lo hi es l n.toNat) (hno : f ≠ 0 → e = f ∧ x = []) : Ev (fun k => offertorylaw12_TallyWrites.j2 k l x e f lo hi most es) true := by
  refine Ev.succ ?_
  simp only [offertorylaw12_TallyWrites.j2]
  refine Ev.if_ (fun hf => ?_) (fun hf => ?_)
  · obtain ⟨rfl, hs, hn, rfl⟩ := hok hf
    obtain ⟨a1, a2, a3, a4, a5, a6, a7, a8⟩ := sound0 hs
    refine Ev.bind awake_f (Ev.pos (by first | rfl | trivial) (Ev.pos rfl (Ev.bind (refEncode_f lo hi most n es l hs hn hm (refLen_f lo hi most n es hn a3 a4 a8)) ?_)))
    rw [vec_eq l hs hn]
    refine Ev.bind (cells_f _ ?_) (Ev.some_ rfl)
    have h40 := hn.le40 a4
    rw [vecE_length]
    omega
  · obtain ⟨rfl, rfl⟩ := hno hf
    exact Ev.bind awake_f (Ev.pos (by first | rfl | trivial) (Ev.pos rfl (Ev.some_ rfl)))
theorem writes_j1 (l x : List Int) (e f lo hi most n : Int) (b : Bool) (es : List Int) (hl : es.length ≤ 9223372036854775806) (h1 : -9223372036854775808 ≤ lo ∧ lo ≤ 9223372036854775807) (h2 : -9223372036854775808 ≤ hi ∧ hi ≤ 9223372036854775807) (hm : l.length ≤ 100000)
    (hb : b = true → e = 9 ∧ x = []) (hok : b = false → f = 0 → e = 0 ∧ soundE lo hi most es = 0 ∧ IsBits lo hi n ∧ x = vecV lo hi es l n.toNat) (hno : b = false → f ≠ 0 → e = f ∧ x = []) : Ev (fun k => offertorylaw12_TallyWrites.j1 k l x e f b lo hi most es) true := by
  refine Ev.succ ?_
  simp only [offertorylaw12_TallyWrites.j1]
  cases b
  · exact Ev.neg (by decide) (writes_j2 l x e f lo hi most n es hl h1 h2 hm (hok rfl) (hno rfl))
  · obtain ⟨rfl, rfl⟩ := hb rfl
    exact Ev.pos rfl (writes_j2 l [] 9 9 lo hi most n es hl h1 h2 hm (fun h => absurd h (by decide)) (fun _ => ⟨rfl, rfl⟩))
theorem writes_j0 (l : List Int) (lo hi most : Int) (es : List Int) (hl : es.length ≤ 9223372036854775806) (h1 : -9223372036854775808 ≤ lo ∧ lo ≤ 9223372036854775807) (h2 : -9223372036854775808 ≤ hi ∧ hi ≤ 9223372036854775807) (hm : l.length ≤ 100000) : Ev (fun k => offertorylaw12_TallyWrites.j0 k l lo hi most es) true := by
  obtain ⟨n, hn⟩ := bits_some lo hi most es
  refine Ev.succ ?_
  simp only [offertorylaw12_TallyWrites.j0]
  refine Ev.bind (encode_f lo hi most n es l hn hl h1 h2 hm) (Ev.bind (refSound_f lo hi most es h1 h2) ?_)
  by_cases h : soundE lo hi most es = 0
  · simp only [h, if_true]
    by_cases hc : (l.length : Int) > most
    · simp only [hc, if_true]
      exact writes_j1 l [] 9 0 lo hi most n true es hl h1 h2 hm (fun _ => ⟨rfl, rfl⟩) (fun hh => by cases hh) (fun hh => by cases hh)
    · simp only [hc, if_false]
      exact writes_j1 l _ 0 0 lo hi most n false es hl h1 h2 hm (fun hh => by cases hh) (fun _ _ => ⟨rfl, h, hn h, rfl⟩) (fun _ hh => absurd rfl hh)
  · simp only [h, if_false]
    exact writes_j1 l [] _ _ lo hi most n false es hl h1 h2 hm (fun hh => by cases hh) (fun _ hh => absurd hh h) (fun _ _ => ⟨rfl, rfl⟩)
theorem TallyWrites (a0_0 : Int) (a0_1 : Int) (a0_2 : Int) (l0_3 : List Int) (l1 : List Int) (w0_0 : (Lit.int .i64 a0_0).wf = true) (w0_1 : (Lit.int .i64 a0_1).wf = true) (w0_2 : (Lit.int .i64 a0_2).wf = true) (w0_3 : (SliceOk 8 (fun n => (Lit.int .i64 n).wf = true)) l0_3) (ok1 : (SliceOk 8 (fun n => (Lit.int .i64 n).wf = true)) l1) : ∃ k, offertorylaw12_TallyWrites.f k a0_0 a0_1 a0_2 l0_3 l1 = some true := by
  have h1 := i64_of w0_0
  have h2 := i64_of w0_1
  have hl : l0_3.length ≤ 9223372036854775806 := by have := w0_3.1; omega
  refine Ev.rounds ?_
  unfold offertorylaw12_TallyWrites.f
  refine Ev.if_ (fun h => Ev.pos (by omega) ?_) (fun h => ?_)
  · exact writes_j0 _ _ _ _ _ hl h1 h2 (by rw [List.length_take]; omega)
  · exact writes_j0 _ _ _ _ _ hl h1 h2 (by omega)
end Go.Proofs.Ythbiijhjcoakfaa.Pure
