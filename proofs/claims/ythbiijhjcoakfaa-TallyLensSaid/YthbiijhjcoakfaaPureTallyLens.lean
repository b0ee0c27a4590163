/- TallyLens, the plain law. -/
import Derived.Test.YthbiijhjcoakfaaPlainTallyLaw
namespace Go.Proofs.Ythbiijhjcoakfaa.Pure
open Go.RowKit Go.Proofs.Ythbiijhjcoakfaa.PAll Go.Proofs.Ythbiijhjcoakfaa.Opn Go.Proofs.Ythbiijhjcoakfaa.Base Go.Proofs.Ythbiijhjcoakfaa.Plain Go.Proofs.YthbiijhjcoakfaaW.PrintWords Go.Proofs.YthbiijhjcoakfaaW.PrintLast Go.Proofs.YthbiijhjcoakfaaW.PrintMore
set_option linter.unusedVariables false
set_option linter.unusedSimpArgs false

theorem TallyLens (a0_0 : Int) (a0_1 : Int) (a0_2 : Int) (l0_3 : List Int) (w0_0 : (Lit.int .i64 a0_0).wf = true) (w0_1 : (Lit.int .i64 a0_1).wf = true) (w0_2 : (Lit.int .i64 a0_2).wf = true) (w0_3 : (SliceOk 8 (fun n => (Lit.int .i64 n).wf = true)) l0_3) : ∃ k, offertorylaw12_TallyLens.f k a0_0 a0_1 a0_2 l0_3 = some true := by
  have h1 := i64_of w0_0
  have h2 := i64_of w0_1
  refine Ev.rounds ?_
  have hn : ∃ n, soundE a0_0 a0_1 a0_2 l0_3 = 0 → IsBits a0_0 a0_1 n := by
    by_cases h : soundE a0_0 a0_1 a0_2 l0_3 = 0
    · obtain ⟨a, b, c, d, _⟩ := sound0 h
      obtain ⟨n, hn⟩ := isBits_exists c d
      exact ⟨n, fun _ => hn⟩
    · exact ⟨0, fun h' => absurd h' h⟩
  obtain ⟨n, hn⟩ := hn
  unfold offertorylaw12_TallyLens.f
  refine Ev.bind (len_t _ _ _ n _ hn (by have := w0_3.1; omega) h1 h2) (Ev.bind (refSound_f _ _ _ _ h1 h2) ?_)
  by_cases h : soundE a0_0 a0_1 a0_2 l0_3 = 0
  · obtain ⟨a, b, c, d, _, _, _, e⟩ := sound0 h
    have hb := hn h
    have h40 := hb.le40 d
    have h01 := hb.1
    simp only [h, if_true]
    refine Ev.bind awake_f ?_
    simp only [if_true]
    refine Ev.bind (refLen_f _ _ _ n _ hb c d e) ?_
    refine Ev.pos rfl (Ev.some_ ?_)
    exact decide_eq_true (by omega)
  · simp only [h, if_false]
    refine Ev.bind awake_f ?_
    simp only [if_true]
    exact Ev.some_ rfl
end Go.Proofs.Ythbiijhjcoakfaa.Pure
