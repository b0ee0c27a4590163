/- ClampBits, the plain law. -/
import Derived.Test.YtehodkkpmoidhaaPlainClampLaw
namespace Go.Proofs.Ytehodkkpmoidhaa.Pure
open Go.RowKit Go.Proofs.Ytehodkkpmoidhaa.PAll Go.Proofs.Ytehodkkpmoidhaa.Opn Go.Proofs.Ytehodkkpmoidhaa.Base Go.Proofs.Ytehodkkpmoidhaa.Plain Go.Proofs.YtehodkkpmoidhaaW.PrintWords Go.Proofs.YtehodkkpmoidhaaW.PrintLast Go.Proofs.YtehodkkpmoidhaaW.PrintMore
set_option linter.unusedVariables false
set_option linter.unusedSimpArgs false

theorem ClampBits (a0_0 : Int) (a0_1 : Int) (a0_2 : Int) (l0_3 : List Int) (w0_0 : (Lit.int .i64 a0_0).wf = true) (w0_1 : (Lit.int .i64 a0_1).wf = true) (w0_2 : (Lit.int .i64 a0_2).wf = true) (w0_3 : (SliceOk 8 (fun n => (Lit.int .i64 n).wf = true)) l0_3) : ∃ k, offertorylaw10_ClampBits.f k a0_0 a0_1 a0_2 l0_3 = some true := by
  have h1 := i64_of w0_0
  have h2 := i64_of w0_1
  refine Ev.rounds ?_
  have hn : ∃ n, soundE a0_0 a0_1 a0_2 l0_3 = 0 → IsBits a0_0 a0_1 n := by
    by_cases h : soundE a0_0 a0_1 a0_2 l0_3 = 0
    · obtain ⟨a, b, c, d, _⟩ := sound0 h
      obtain ⟨n, hn⟩ := isBits_exists c d
      exact ⟨n, fun _ => hn⟩
    · exact ⟨0, fun h' => absurd h' h⟩
  obtain ⟨n, hn⟩ := hn
  unfold offertorylaw10_ClampBits.f
  refine Ev.bind (bits_f _ _ _ n _ hn (by have := w0_3.1; omega) h1 h2) (Ev.bind (refSound_f _ _ _ _ h1 h2) ?_)
  refine Ev.if_ (fun h => ?_) (fun h => ?_)
  · obtain ⟨a, b, c, d, _⟩ := sound0 h
    have hb := hn h
    have h40 := hb.le40 d
    have h01 := hb.1
    refine Ev.bind awake_f ?_
    simp only [h, if_true]
    refine Ev.bind (refBits_f _ _ _ n _ hb c d) ?_
    simp only [if_true]
    refine Ev.pos h01 (Ev.some_ ?_)
    exact decide_eq_true h40
  · refine Ev.bind awake_f ?_
    simp only [h, if_true, if_false]
    exact Ev.some_ rfl
end Go.Proofs.Ytehodkkpmoidhaa.Pure
