/-
  No cell of these rows narrows 'for every input' (looked for: loops, veiled, ifaces, maps, wideKeys, modest, calm, conditions, laid).
  DERIVED. THE GIVEN ROWS OF THIS SEAT. 3 by the template 'for every input the law returns true; each argument reads behind the call as it read before'; 0 by the template 'total and deterministic' (their statements: YthokkogdkpmdcaaTotals.lean).
  GIVEN WITH THE SEED: the statements are not yours to turn. If you find one false, say at which input.
  Laid BY PROGRAM, IN A SANDBOX (cutbox-rows.mjs): the forced cells as the released guide's own fill.sh prints them over the translation 9523213738e6a4f3… (all of the seat's roots in one cut). By AI agents, Wed Nov 11 2026. No macro, syntax, notation, axiom, sorry.
-/
import Derived.Test.YthokkogdkpmdcaaChecked
import GoSem.Claim
import GoSem.ClaimJoined
import GoSem.ClaimMapViews
import Derived.JoinedTies
import Derived.KernelRfl
namespace Go.Proofs.Ythokkogdkpmdcaa
/- THE CELL 'sum', in the pinned program and in every row, IS THE sha256 OF THE DUMP (.gsa) THAT YthokkogdkpmdcaaProg.lean LOADS. Nothing in Lean hashes anything: it is a label: what it is worth is what the hold of that sum in a sandbox is worth. -/
noncomputable def Try.pinned : Pinned := { name := "ythokkogdkpmdcaa", sum := "9523213738e6a4f3c13e87cadcdde0dda2892f8346a66e647a4f66c2a86cb514", checked := Try.checked }
namespace Rows
def none {H : Type} : Left H := { results := [], args := [] }

/-- 'offertorylaw28.RankBounds': WHATEVER THE INPUT: true; the input reads as it did. -/
def rankBoundsSpec : ChangeSpec := { name := "rankBounds", fn := fun _ => fun
  | [d1, d2, d3] => { results := [.lit (.bool true)], args := [d1, d2, d3] }
  | _ => none }
def rankBoundsRow : OpenClaim := { program := "ythokkogdkpmdcaa", sum := "9523213738e6a4f3c13e87cadcdde0dda2892f8346a66e647a4f66c2a86cb514", func := "offertory/offertorylaw28.RankBounds", spec := "rankBounds", named := ["math/bits.divideError", "math/bits.overflowError"], apart := false }
def RankBoundsSaid : Prop := rankBoundsRow.holds Try.pinned (OpenSpec.ofChange rankBoundsSpec)

/-- ITS FALSE NEIGHBOUR: 'it returns false'. Refute it at one input. -/
def rankBoundsWrong : ChangeSpec := { name := "rankBounds", fn := fun _ => fun
  | [d1, d2, d3] => { results := [.lit (.bool false)], args := [d1, d2, d3] }
  | _ => none }
def RankBoundsWrongFalsely : Prop := rankBoundsRow.holds Try.pinned (OpenSpec.ofChange rankBoundsWrong)

/-- 'offertorylaw28.RankMeans': WHATEVER THE INPUT: true; the input reads as it did. -/
def rankMeansSpec : ChangeSpec := { name := "rankMeans", fn := fun _ => fun
  | [d] => { results := [.lit (.bool true)], args := [d] }
  | _ => none }
def rankMeansRow : OpenClaim := { program := "ythokkogdkpmdcaa", sum := "9523213738e6a4f3c13e87cadcdde0dda2892f8346a66e647a4f66c2a86cb514", func := "offertory/offertorylaw28.RankMeans", spec := "rankMeans", named := ["math/bits.divideError", "math/bits.overflowError"], apart := false }
def RankMeansSaid : Prop := rankMeansRow.holds Try.pinned (OpenSpec.ofChange rankMeansSpec)

/-- ITS FALSE NEIGHBOUR: 'it returns false'. Refute it at one input. -/
def rankMeansWrong : ChangeSpec := { name := "rankMeans", fn := fun _ => fun
  | [d] => { results := [.lit (.bool false)], args := [d] }
  | _ => none }
def RankMeansWrongFalsely : Prop := rankMeansRow.holds Try.pinned (OpenSpec.ofChange rankMeansWrong)

/-- 'offertorylaw28.RankLies': WHATEVER THE INPUT: true; the input reads as it did. -/
def rankLiesSpec : ChangeSpec := { name := "rankLies", fn := fun _ => fun
  | [d1, d2, d3] => { results := [.lit (.bool true)], args := [d1, d2, d3] }
  | _ => none }
def rankLiesRow : OpenClaim := { program := "ythokkogdkpmdcaa", sum := "9523213738e6a4f3c13e87cadcdde0dda2892f8346a66e647a4f66c2a86cb514", func := "offertory/offertorylaw28.RankLies", spec := "rankLies", named := ["math/bits.divideError", "math/bits.overflowError"], apart := false }
def RankLiesSaid : Prop := rankLiesRow.holds Try.pinned (OpenSpec.ofChange rankLiesSpec)

/-- ITS FALSE NEIGHBOUR: 'it returns false'. Refute it at one input. -/
def rankLiesWrong : ChangeSpec := { name := "rankLies", fn := fun _ => fun
  | [d1, d2, d3] => { results := [.lit (.bool false)], args := [d1, d2, d3] }
  | _ => none }
def RankLiesWrongFalsely : Prop := rankLiesRow.holds Try.pinned (OpenSpec.ofChange rankLiesWrong)

/- THE SECOND FORM. 'bulk': how many values and letters a reading holds, each counted each time it is reached (what is shared counts as often as it is met; a slice's spare places count too). A statement '..UptoSaid' is the law's where the arguments, and the package variables that the reading takes, are together of bulk at most 1048576: NARROWER than '..Said'. Prove '..Said' where nothing that the law and all that it calls make is longer than what came in: it says more and counts as full. Else prove '..UptoSaid'. A law counts once. -/
mutual
def uptoBulk {H : Type} : DataW H → Nat
  | .lit (.string bytes) => bytes.length + 1
  | .lit _ => 1
  | .nil => 1
  | .ptr d => uptoBulk d + 1
  | .slice elems spare => uptoBulkAll elems + uptoBulkAll spare + 1
  | .agg parts => uptoBulkAll parts + 1
  | .iface _ d => uptoBulk d + 1
  | .map entries => uptoBulkEntries entries + 1
  | .held _ => 1
def uptoBulkAll {H : Type} : List (DataW H) → Nat
  | [] => 0
  | d :: r => uptoBulk d + uptoBulkAll r
def uptoBulkEntries {H : Type} : List (Lit × DataW H) → Nat
  | [] => 0
  | x :: r => uptoBulkEntry x + uptoBulkEntries r
def uptoBulkEntry {H : Type} : Lit × DataW H → Nat
  | (.string bytes, d) => bytes.length + uptoBulk d + 1
  | (_, d) => uptoBulk d + 1
 end
def uptoSmall : (H : Type) → List (DataW H) → Bool := fun _ ds => decide (uptoBulkAll ds ≤ 1048576)
def OpenSpec.upto (s : _root_.Go.ChangeSpec) : _root_.Go.OpenSpec := { _root_.Go.OpenSpec.ofChange s with cond := some uptoSmall }

/-- 'offertorylaw28.RankBounds', WHERE WHAT IT READS IS OF BULK AT MOST 1048576: true; the input reads as it did. -/
def rankBoundsUptoRow : OpenClaim := { program := "ythokkogdkpmdcaa", sum := "9523213738e6a4f3c13e87cadcdde0dda2892f8346a66e647a4f66c2a86cb514", func := "offertory/offertorylaw28.RankBounds", spec := "rankBounds", named := ["math/bits.divideError", "math/bits.overflowError"], apart := false, narrowed := true }
def RankBoundsUptoSaid : Prop := rankBoundsUptoRow.holds Try.pinned (OpenSpec.upto rankBoundsSpec)

/-- 'offertorylaw28.RankMeans', WHERE WHAT IT READS IS OF BULK AT MOST 1048576: true; the input reads as it did. -/
def rankMeansUptoRow : OpenClaim := { program := "ythokkogdkpmdcaa", sum := "9523213738e6a4f3c13e87cadcdde0dda2892f8346a66e647a4f66c2a86cb514", func := "offertory/offertorylaw28.RankMeans", spec := "rankMeans", named := ["math/bits.divideError", "math/bits.overflowError"], apart := false, narrowed := true }
def RankMeansUptoSaid : Prop := rankMeansUptoRow.holds Try.pinned (OpenSpec.upto rankMeansSpec)

/-- 'offertorylaw28.RankLies', WHERE WHAT IT READS IS OF BULK AT MOST 1048576: true; the input reads as it did. -/
def rankLiesUptoRow : OpenClaim := { program := "ythokkogdkpmdcaa", sum := "9523213738e6a4f3c13e87cadcdde0dda2892f8346a66e647a4f66c2a86cb514", func := "offertory/offertorylaw28.RankLies", spec := "rankLies", named := ["math/bits.divideError", "math/bits.overflowError"], apart := false, narrowed := true }
def RankLiesUptoSaid : Prop := rankLiesUptoRow.holds Try.pinned (OpenSpec.upto rankLiesSpec)

end Rows
end Go.Proofs.Ythokkogdkpmdcaa
