/- Layer 12: the laws' common part: the fixed fact, the lengths. -/
import Derived.Test.YthbiijhjcoakfaaPlainBits
namespace Go.Proofs.Ythbiijhjcoakfaa.Plain
open Go.RowKit Go.Proofs.Ythbiijhjcoakfaa.PAll Go.Proofs.Ythbiijhjcoakfaa.Opn Go.Proofs.Ythbiijhjcoakfaa.Base Go.Proofs.YthbiijhjcoakfaaW.PrintWords Go.Proofs.YthbiijhjcoakfaaW.PrintLast Go.Proofs.YthbiijhjcoakfaaW.PrintMore
set_option linter.unusedVariables false
set_option linter.unusedSimpArgs false
theorem awake_f : Ev (fun k => offertorylaw12_awake.f k) true := Ev.of (k := 20) (fun k => offertorylaw12_awake.mono k) (by decide +kernel)
theorem len_t (lo hi most n : Int) (es : List Int) (hn : soundE lo hi most es = 0 → IsBits lo hi n) (hl : es.length ≤ 9223372036854775806) (h1 : -9223372036854775808 ≤ lo ∧ lo ≤ 9223372036854775807) (h2 : -9223372036854775808 ≤ hi ∧ hi ≤ 9223372036854775807) :
    Ev (fun k => tally_Len.f k lo hi most es) (if soundE lo hi most es = 0 then ((es.length : Int) + 2 + 3 * n, 0) else (0, soundE lo hi most es)) := by
  unfold tally_Len.f
  refine Ev.bind (bits_f lo hi most n es hn hl h1 h2) ?_
  by_cases h : soundE lo hi most es = 0
  · simp only [h, if_true]
    obtain ⟨a, b, c, d, _, _, _, e⟩ := sound0 h
    have hb := hn h
    have h40 := hb.le40 d
    have h01 := hb.1
    refine Ev.some_ ?_
    rw [w64 (x := (es.length : Int) + 1) (by omega), w64 (x := (es.length : Int) + 1 + 1) (by omega), w64 (x := (es.length : Int) + 1 + 1 + n) (by omega), w64 (x := 2 * n) (by omega), w64 (by omega)]
    congr 1
    omega
  · simp only [h, if_false]
    exact Ev.now _
theorem refLen_f (lo hi most n : Int) (es : List Int) (hn : IsBits lo hi n) (h0 : lo ≤ hi) (hd : hi - lo < 1099511627776) (hl : es.length ≤ 64) : Ev (fun k => offertoryref09_Len.f k lo hi most es) ((es.length : Int) + 2 + 3 * n) := by
  have h40 := hn.le40 hd
  have h01 := hn.1
  unfold offertoryref09_Len.f
  refine Ev.bind (refBits_f lo hi most n es hn h0 hd) (Ev.some_ ?_)
  rw [w64 (x := (es.length : Int) + 2) (by omega), w64 (x := 3 * n) (by omega), w64 (by omega)]
end Go.Proofs.Ythbiijhjcoakfaa.Plain
