/- ClampOnce, the plain law. -/
import Derived.Test.YtehodkkpmoidhaaPlainClampLaw
namespace Go.Proofs.Ytehodkkpmoidhaa.Pure
open Go.RowKit Go.Proofs.Ytehodkkpmoidhaa.PAll Go.Proofs.Ytehodkkpmoidhaa.Opn Go.Proofs.Ytehodkkpmoidhaa.Base Go.Proofs.Ytehodkkpmoidhaa.Plain Go.Proofs.YtehodkkpmoidhaaW.PrintWords Go.Proofs.YtehodkkpmoidhaaW.PrintLast Go.Proofs.YtehodkkpmoidhaaW.PrintMore
set_option linter.unusedVariables false
set_option linter.unusedSimpArgs false

theorem ClampOnce (a0_0 : Int) (a0_1 : Int) (a0_2 : Int) (l0_3 : List Int) (a1 : Int) (a2 : Int) (w0_0 : (Lit.int .i64 a0_0).wf = true) (w0_1 : (Lit.int .i64 a0_1).wf = true) (w0_2 : (Lit.int .i64 a0_2).wf = true) (w0_3 : (SliceOk 8 (fun n => (Lit.int .i64 n).wf = true)) l0_3) (w1 : (Lit.int .i64 a1).wf = true) (w2 : (Lit.int .i64 a2).wf = true) : ∃ k, offertorylaw10_ClampOnce.f k a0_0 a0_1 a0_2 l0_3 a1 a2 = some true := by
  have h1 := i64_of w0_0
  have h2 := i64_of w0_1
  have hl : l0_3.length ≤ 9223372036854775806 := by have := w0_3.1; omega
  refine Ev.rounds ?_
  unfold offertorylaw10_ClampOnce.f
  refine Ev.bind (clamp_f _ _ _ _ _ hl h1 h2) (Ev.bind (clamp_f _ _ _ _ _ hl h1 h2) (Ev.bind awake_f ?_))
  simp only [if_true]
  refine Ev.succ ?_
  simp only [offertorylaw10_ClampOnce.j0]
  by_cases h : soundE a0_0 a0_1 a0_2 l0_3 = 0
  · obtain ⟨a, b, c, d, _⟩ := sound0 h
    have hc := clampV_in c a1
    have hd := clampV_in c a2
    have e1 := clampV_eq c a1
    have e2 := clampV_eq c a2
    simp only [h, if_true]
    refine Ev.neg (by simp) ?_
    refine Ev.bind (clamp_f _ _ _ _ _ hl h1 h2) ?_
    simp only [h, if_true]
    rw [clampV_id hc.1 hc.2]
    simp only [if_true]
    have hge : clampV a0_0 a0_1 a1 ≥ a0_0 := hc.1
    have hle : decide (clampV a0_0 a0_1 a1 ≤ a0_1) = true := decide_eq_true hc.2
    simp only [hge, hle, if_true]
    have hid : ¬ a1 < a0_0 → ¬ a1 > a0_1 → clampV a0_0 a0_1 a1 = a1 := fun h3 h4 => clampV_id (by omega) (by omega)
    refine Ev.if_ (fun _ => Ev.if_ (fun _ => Ev.now _) (fun h3 => Ev.if_ (fun _ => Ev.now _) (fun h4 => Ev.pos (hid h3 h4) (Ev.now _)))) (fun h5 => Ev.pos ?_ (Ev.if_ (fun _ => Ev.now _) (fun h3 => Ev.if_ (fun _ => Ev.now _) (fun h4 => Ev.pos (hid h3 h4) (Ev.now _)))))
    rw [e1, e2]
    split <;> split <;> (try split) <;> (try split) <;> omega
  · simp only [h, if_false]
    have : (soundE a0_0 a0_1 a0_2 l0_3 != 0) = true := by simpa using h
    exact Ev.pos this (Ev.bind awake_f (Ev.now _))
end Go.Proofs.Ytehodkkpmoidhaa.Pure
