/- The document's whole numbers and signs. -/
import Derived.Test.YtdpekjffjobabaaPlainBigNeg
import Derived.Test.YtdpekjffjobabaaPlainWideW
namespace Go.Proofs.Ytdpekjffjobabaa.Plain
open Go.RowKit Go.Proofs.Ytdpekjffjobabaa.PAll Go.Proofs.Ytdpekjffjobabaa.Opn Go.Proofs.Ytdpekjffjobabaa.Base Go.Proofs.YtdpekjffjobabaaW.PrintWords Go.Proofs.YtdpekjffjobabaaW.PrintLast Go.Proofs.YtdpekjffjobabaaW.PrintMore
set_option linter.unusedVariables false
set_option linter.unusedSimpArgs false
theorem bigInt_f {x : Int} (h : -9223372036854775808 ≤ x ∧ x ≤ 9223372036854775807) : offertoryref09_Int.f x = some (digs x) := by
  unfold offertoryref09_Int.f
  rw [if_pos h]
def signD (u : Int) : Int × Int × Int × Int × Int × Int × Int × Int × Bool :=
  if negB u = true then (bigD (-u) 0, bigD (-u) 1, bigD (-u) 2, bigD (-u) 3, bigD (-u) 4, bigD (-u) 5, bigD (-u) 6, bigD (-u) 7, true) else (bigD u 0, bigD u 1, bigD u 2, bigD u 3, bigD u 4, bigD u 5, bigD u 6, bigD u 7, false)
theorem neg7 (u : Int) : bigD u 7 ≥ 32768 ↔ negB u = true := by
  unfold negB bigD
  rw [decide_eq_true_eq]
  constructor <;> intro h <;> omega
theorem bigSigned_f (u : Int) : offertoryref09_Signed.f (bigD u 0) (bigD u 1) (bigD u 2) (bigD u 3) (bigD u 4) (bigD u 5) (bigD u 6) (bigD u 7) = some (signD u) := by
  unfold offertoryref09_Signed.f signD
  by_cases h : negB u = true
  · rw [if_pos ((neg7 u).2 h), if_pos h, bigNeg_f]; rfl
  · rw [if_neg (fun x => h ((neg7 u).1 x)), if_neg h]
/-- A sum without its sign. -/
def resS (u : Int) : Int × Int × Bool := if negB u = true then ((wd (-u)).1, (wd (-u)).2, true) else ((wd u).1, (wd u).2, false)
theorem signWide (u : Int) : (offertoryref09_Big_Wide.f (signD u).1 (signD u).2.1 (signD u).2.2.1 (signD u).2.2.2.1 (signD u).2.2.2.2.1 (signD u).2.2.2.2.2.1 (signD u).2.2.2.2.2.2.1 (signD u).2.2.2.2.2.2.2.1) = some ((resS u).1, (resS u).2.1) := by
  unfold signD resS
  split
  · exact bigWide_f (-u)
  · exact bigWide_f u
theorem signBool (u : Int) : (signD u).2.2.2.2.2.2.2.2 = (resS u).2.2 := by unfold signD resS; split <;> rfl
theorem signed_r (u : Int) : stats_signed.f (wd u).1 (wd u).2 = some (resS u) := signed_w u
end Go.Proofs.Ytdpekjffjobabaa.Plain
