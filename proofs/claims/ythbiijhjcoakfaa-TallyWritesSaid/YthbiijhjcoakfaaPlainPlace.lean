/- What Place answers. -/
import Derived.Test.YthbiijhjcoakfaaPlainClamp
namespace Go.Proofs.Ythbiijhjcoakfaa.Plain
open Go.RowKit Go.Proofs.Ythbiijhjcoakfaa.PAll Go.Proofs.Ythbiijhjcoakfaa.Opn Go.Proofs.Ythbiijhjcoakfaa.Base Go.Proofs.YthbiijhjcoakfaaW.PrintWords Go.Proofs.YthbiijhjcoakfaaW.PrintLast Go.Proofs.YthbiijhjcoakfaaW.PrintMore
set_option linter.unusedVariables false
set_option linter.unusedSimpArgs false

theorem place_f (lo hi most : Int) (es : List Int) (x : Int) (hl : es.length ≤ 9223372036854775806) (h1 : -9223372036854775808 ≤ lo ∧ lo ≤ 9223372036854775807) (h2 : -9223372036854775808 ≤ hi ∧ hi ≤ 9223372036854775807) :
    Ev (fun k => clamp_Place.f k lo hi most es x) (if soundE lo hi most es = 0 then (clampV lo hi x - lo, 0) else (0, soundE lo hi most es)) := by
  unfold clamp_Place.f
  refine Ev.bind (clamp_f lo hi most es x hl h1 h2) ?_
  by_cases h : soundE lo hi most es = 0
  · simp only [h, if_true]
    obtain ⟨a, b, c, d, _⟩ := sound0 h
    have hc := clampV_in c x
    refine Ev.some_ ?_
    rw [w64 (by omega), wu64 (by omega)]
  · simp only [h, if_false]
    exact Ev.now _

end Go.Proofs.Ythbiijhjcoakfaa.Plain
