/- BinRises, the plain law. -/
import Derived.Test.YtnceljfilcepcaaPlainBinLaw
namespace Go.Proofs.Ytnceljfilcepcaa.Pure
open Go.RowKit Go.Proofs.Ytnceljfilcepcaa.PAll Go.Proofs.Ytnceljfilcepcaa.Opn Go.Proofs.Ytnceljfilcepcaa.Base Go.Proofs.Ytnceljfilcepcaa.Plain Go.Proofs.YtnceljfilcepcaaW.PrintWords Go.Proofs.YtnceljfilcepcaaW.PrintLast Go.Proofs.YtnceljfilcepcaaW.PrintMore
set_option linter.unusedVariables false
set_option linter.unusedSimpArgs false
theorem BinRises (a0_0 : Int) (a0_1 : Int) (a0_2 : Int) (l0_3 : List Int) (a1 : Int) (a2 : Int) (w0_0 : (Lit.int .i64 a0_0).wf = true) (w0_1 : (Lit.int .i64 a0_1).wf = true) (w0_2 : (Lit.int .i64 a0_2).wf = true) (w0_3 : (SliceOk 8 (fun n => (Lit.int .i64 n).wf = true)) l0_3) (w1 : (Lit.int .i64 a1).wf = true) (w2 : (Lit.int .i64 a2).wf = true) : ∃ k, offertorylaw11_BinRises.f k a0_0 a0_1 a0_2 l0_3 a1 a2 = some true := by
  have h1 := i64_of w0_0
  have h2 := i64_of w0_1
  have hl : l0_3.length ≤ 9223372036854775806 := by have := w0_3.1; omega
  refine Ev.rounds ?_
  unfold offertorylaw11_BinRises.f
  refine Ev.bind (find_f _ _ _ _ _ hl h1 h2) (Ev.bind (find_f _ _ _ _ _ hl h1 h2) (Ev.bind awake_f ?_))
  simp only [if_true]
  refine Ev.succ ?_
  simp only [offertorylaw11_BinRises.j0]
  by_cases h : soundE a0_0 a0_1 a0_2 l0_3 = 0
  · obtain ⟨a, b, c, d, e, f, g, h64⟩ := sound0 h
    simp only [h, if_true]
    refine Ev.neg (by simp) ?_
    have mono : ¬ a1 > a2 → (binN l0_3 (clampV a0_0 a0_1 a1) : Int) ≤ (binN l0_3 (clampV a0_0 a0_1 a2) : Int) := fun hle => by
      have := binN_mono (es := l0_3) (x := clampV a0_0 a0_1 a1) (y := clampV a0_0 a0_1 a2) (by
        rw [clampV_eq c, clampV_eq c]
        split <;> (try split) <;> (try split) <;> (try split) <;> omega)
      omega
    refine Ev.if_ (fun h3 => Ev.if_ (fun _ => Ev.now _) (fun h5 => Ev.some_ (decide_eq_true (mono h5)))) (fun h3 => Ev.if_ (fun h4 => Ev.if_ (fun _ => Ev.now _) (fun h5 => Ev.some_ (decide_eq_true (mono h5)))) (fun h4 => ?_))
    have hid : clampV a0_0 a0_1 a1 = a1 := clampV_id (by omega) (by omega)
    obtain ⟨i0, i1, i2⟩ := binN_is l0_3 (clampV a0_0 a0_1 a1)
    rw [hid] at i0 i1 i2 mono ⊢
    have tail : Ev (fun _ : Nat => if (binN l0_3 a1 : Int) ≥ 0 then (if (binN l0_3 a1 : Int) ≤ (l0_3.length : Int) then (if (binN l0_3 a1 : Int) = 0 then (if (binN l0_3 a1 : Int) = (l0_3.length : Int) then (some true) else (if 0 ≤ (binN l0_3 a1 : Int) then (if (binN l0_3 a1 : Int) < (l0_3.length : Int) then (some (decide (a1 < (rd l0_3 (binN l0_3 a1 : Int))))) else (none)) else (none))) else (if 0 ≤ (wrap64 ((binN l0_3 a1 : Int) - 1)) then (if (wrap64 ((binN l0_3 a1 : Int) - 1)) < (l0_3.length : Int) then (if (rd l0_3 (wrap64 ((binN l0_3 a1 : Int) - 1))) ≤ a1 then (if (binN l0_3 a1 : Int) = (l0_3.length : Int) then (some true) else (if 0 ≤ (binN l0_3 a1 : Int) then (if (binN l0_3 a1 : Int) < (l0_3.length : Int) then (some (decide (a1 < (rd l0_3 (binN l0_3 a1 : Int))))) else (none)) else (none))) else (some false)) else (none)) else (none))) else (some false)) else (some false)) true := by
      have last : Ev (fun _ : Nat => if (binN l0_3 a1 : Int) = (l0_3.length : Int) then (some true) else (if 0 ≤ (binN l0_3 a1 : Int) then (if (binN l0_3 a1 : Int) < (l0_3.length : Int) then (some (decide (a1 < (rd l0_3 (binN l0_3 a1 : Int))))) else (none)) else (none))) true := by
        refine Ev.if_ (fun _ => Ev.now _) (fun h6 => Ev.pos (by omega) (Ev.pos (by omega) (Ev.some_ (decide_eq_true ?_))))
        exact i2 (by omega)
      refine Ev.pos (by omega) (Ev.pos (by omega) (Ev.if_ (fun _ => last) (fun h6 => ?_)))
      have e1 : wrap64 ((binN l0_3 a1 : Int) - 1) = ((binN l0_3 a1 - 1 : Nat) : Int) := by rw [w64 (by omega)]; omega
      rw [e1]
      exact Ev.pos (by omega) (Ev.pos (by omega) (Ev.pos (i1 _ (by omega)) last))
    exact Ev.if_ (fun _ => tail) (fun h5 => Ev.pos (mono h5) tail)
  · simp only [h, if_false]
    have : (soundE a0_0 a0_1 a0_2 l0_3 != 0) = true := by simpa using h
    exact Ev.pos this (Ev.bind awake_f (Ev.now _))
end Go.Proofs.Ytnceljfilcepcaa.Pure
