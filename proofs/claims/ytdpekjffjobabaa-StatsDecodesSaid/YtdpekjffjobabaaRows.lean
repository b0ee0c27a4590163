/-
  No cell of these rows narrows 'for every input' (looked for: loops, veiled, ifaces, maps, wideKeys, modest, calm, conditions, laid).
  DERIVED. THE GIVEN ROWS OF THIS SEAT. 5 by the template 'for every input the law returns true; each argument reads behind the call as it read before'; 0 by the template 'total and deterministic' (their statements: YtdpekjffjobabaaTotals.lean).
  GIVEN WITH THE SEED: the statements are not yours to turn. If you find one false, say at which input.
  Laid BY PROGRAM, IN A SANDBOX (cutbox-rows.mjs): the forced cells as the released guide's own fill.sh prints them over the translation 4990a20f96429fd5… (all of the seat's roots in one cut). By AI agents, Wed Nov 11 2026. No macro, syntax, notation, axiom, sorry.
-/
import Derived.Test.YtdpekjffjobabaaChecked
import GoSem.Claim
import GoSem.ClaimJoined
import GoSem.ClaimMapViews
import Derived.JoinedTies
import Derived.KernelRfl
namespace Go.Proofs.Ytdpekjffjobabaa
/- THE CELL 'sum', in the pinned program and in every row, IS THE sha256 OF THE DUMP (.gsa) THAT YtdpekjffjobabaaProg.lean LOADS. Nothing in Lean hashes anything: it is a label: what it is worth is what the hold of that sum in a sandbox is worth. -/
noncomputable def Try.pinned : Pinned := { name := "ytdpekjffjobabaa", sum := "4990a20f96429fd5065c547c949c7058f1a5581b68a02b7180a8c52835692fe9", checked := Try.checked }
namespace Rows
def none {H : Type} : Left H := { results := [], args := [] }

/-- 'offertorylaw13.StatsOf': WHATEVER THE INPUT: true; the input reads as it did. -/
def statsOfSpec : ChangeSpec := { name := "statsOf", fn := fun _ => fun
  | [d1, d2] => { results := [.lit (.bool true)], args := [d1, d2] }
  | _ => none }
def statsOfRow : OpenClaim := { program := "ytdpekjffjobabaa", sum := "4990a20f96429fd5065c547c949c7058f1a5581b68a02b7180a8c52835692fe9", func := "offertory/offertorylaw13.StatsOf", spec := "statsOf", inPlace := ["math/bits.Add64", "math/bits.Sub64"], unfollowed := true, recurses := true, apart := false }
def StatsOfSaid : Prop := statsOfRow.holds Try.pinned (OpenSpec.ofChange statsOfSpec)

/-- ITS FALSE NEIGHBOUR: 'it returns false'. Refute it at one input. -/
def statsOfWrong : ChangeSpec := { name := "statsOf", fn := fun _ => fun
  | [d1, d2] => { results := [.lit (.bool false)], args := [d1, d2] }
  | _ => none }
def StatsOfWrongFalsely : Prop := statsOfRow.holds Try.pinned (OpenSpec.ofChange statsOfWrong)

/-- 'offertorylaw13.StatsDecodes': WHATEVER THE INPUT: true; the input reads as it did. -/
def statsDecodesSpec : ChangeSpec := { name := "statsDecodes", fn := fun _ => fun
  | [d1, d2] => { results := [.lit (.bool true)], args := [d1, d2] }
  | _ => none }
def statsDecodesRow : OpenClaim := { program := "ytdpekjffjobabaa", sum := "4990a20f96429fd5065c547c949c7058f1a5581b68a02b7180a8c52835692fe9", func := "offertory/offertorylaw13.StatsDecodes", spec := "statsDecodes", inPlace := ["math/bits.Add64", "math/bits.Sub64"], unfollowed := true, recurses := true, apart := false }
def StatsDecodesSaid : Prop := statsDecodesRow.holds Try.pinned (OpenSpec.ofChange statsDecodesSpec)

/-- ITS FALSE NEIGHBOUR: 'it returns false'. Refute it at one input. -/
def statsDecodesWrong : ChangeSpec := { name := "statsDecodes", fn := fun _ => fun
  | [d1, d2] => { results := [.lit (.bool false)], args := [d1, d2] }
  | _ => none }
def StatsDecodesWrongFalsely : Prop := statsDecodesRow.holds Try.pinned (OpenSpec.ofChange statsDecodesWrong)

/-- 'offertorylaw13.StatsBack': WHATEVER THE INPUT: true; the input reads as it did. -/
def statsBackSpec : ChangeSpec := { name := "statsBack", fn := fun _ => fun
  | [d1, d2] => { results := [.lit (.bool true)], args := [d1, d2] }
  | _ => none }
def statsBackRow : OpenClaim := { program := "ytdpekjffjobabaa", sum := "4990a20f96429fd5065c547c949c7058f1a5581b68a02b7180a8c52835692fe9", func := "offertory/offertorylaw13.StatsBack", spec := "statsBack", inPlace := ["math/bits.Add64", "math/bits.Sub64"], unfollowed := true, recurses := true, apart := false }
def StatsBackSaid : Prop := statsBackRow.holds Try.pinned (OpenSpec.ofChange statsBackSpec)

/-- ITS FALSE NEIGHBOUR: 'it returns false'. Refute it at one input. -/
def statsBackWrong : ChangeSpec := { name := "statsBack", fn := fun _ => fun
  | [d1, d2] => { results := [.lit (.bool false)], args := [d1, d2] }
  | _ => none }
def StatsBackWrongFalsely : Prop := statsBackRow.holds Try.pinned (OpenSpec.ofChange statsBackWrong)

/-- 'offertorylaw13.StatsSame': WHATEVER THE INPUT: true; the input reads as it did. -/
def statsSameSpec : ChangeSpec := { name := "statsSame", fn := fun _ => fun
  | [d1, d2] => { results := [.lit (.bool true)], args := [d1, d2] }
  | _ => none }
def statsSameRow : OpenClaim := { program := "ytdpekjffjobabaa", sum := "4990a20f96429fd5065c547c949c7058f1a5581b68a02b7180a8c52835692fe9", func := "offertory/offertorylaw13.StatsSame", spec := "statsSame", inPlace := ["math/bits.Add64", "math/bits.Sub64"], unfollowed := true, recurses := true, apart := false }
def StatsSameSaid : Prop := statsSameRow.holds Try.pinned (OpenSpec.ofChange statsSameSpec)

/-- ITS FALSE NEIGHBOUR: 'it returns false'. Refute it at one input. -/
def statsSameWrong : ChangeSpec := { name := "statsSame", fn := fun _ => fun
  | [d1, d2] => { results := [.lit (.bool false)], args := [d1, d2] }
  | _ => none }
def StatsSameWrongFalsely : Prop := statsSameRow.holds Try.pinned (OpenSpec.ofChange statsSameWrong)

/-- 'offertorylaw13.StatsTimes': WHATEVER THE INPUT: true; the input reads as it did. -/
def statsTimesSpec : ChangeSpec := { name := "statsTimes", fn := fun _ => fun
  | [d1, d2, d3] => { results := [.lit (.bool true)], args := [d1, d2, d3] }
  | _ => none }
def statsTimesRow : OpenClaim := { program := "ytdpekjffjobabaa", sum := "4990a20f96429fd5065c547c949c7058f1a5581b68a02b7180a8c52835692fe9", func := "offertory/offertorylaw13.StatsTimes", spec := "statsTimes", inPlace := ["math/bits.Add64", "math/bits.Sub64"], unfollowed := true, recurses := true, apart := false }
def StatsTimesSaid : Prop := statsTimesRow.holds Try.pinned (OpenSpec.ofChange statsTimesSpec)

/-- ITS FALSE NEIGHBOUR: 'it returns false'. Refute it at one input. -/
def statsTimesWrong : ChangeSpec := { name := "statsTimes", fn := fun _ => fun
  | [d1, d2, d3] => { results := [.lit (.bool false)], args := [d1, d2, d3] }
  | _ => none }
def StatsTimesWrongFalsely : Prop := statsTimesRow.holds Try.pinned (OpenSpec.ofChange statsTimesWrong)

/- THE SECOND FORM. 'bulk': how many values and letters a reading holds, each counted each time it is reached (what is shared counts as often as it is met; a slice's spare places count too). A statement '..UptoSaid' is the law's where the arguments, and the package variables that the reading takes, are together of bulk at most 1048576: NARROWER than '..Said'. Prove '..Said' where nothing that the law and all that it calls make is longer than what came in: it says more and counts as full. Else prove '..UptoSaid'. A law counts once. -/
mutual
def uptoBulk {H : Type} : DataW H → Nat
  | .lit (.string bytes) => bytes.length + 1
  | .lit _ => 1
  | .nil => 1
  | .ptr d => uptoBulk d + 1
  | .slice elems spare => uptoBulkAll elems + uptoBulkAll spare + 1
  | .agg parts => uptoBulkAll parts + 1
  | .iface _ d => uptoBulk d + 1
  | .map entries => uptoBulkEntries entries + 1
  | .held _ => 1
def uptoBulkAll {H : Type} : List (DataW H) → Nat
  | [] => 0
  | d :: r => uptoBulk d + uptoBulkAll r
def uptoBulkEntries {H : Type} : List (Lit × DataW H) → Nat
  | [] => 0
  | x :: r => uptoBulkEntry x + uptoBulkEntries r
def uptoBulkEntry {H : Type} : Lit × DataW H → Nat
  | (.string bytes, d) => bytes.length + uptoBulk d + 1
  | (_, d) => uptoBulk d + 1
 end
def uptoSmall : (H : Type) → List (DataW H) → Bool := fun _ ds => decide (uptoBulkAll ds ≤ 1048576)
def OpenSpec.upto (s : _root_.Go.ChangeSpec) : _root_.Go.OpenSpec := { _root_.Go.OpenSpec.ofChange s with cond := some uptoSmall }

/-- 'offertorylaw13.StatsOf', WHERE WHAT IT READS IS OF BULK AT MOST 1048576: true; the input reads as it did. -/
def statsOfUptoRow : OpenClaim := { program := "ytdpekjffjobabaa", sum := "4990a20f96429fd5065c547c949c7058f1a5581b68a02b7180a8c52835692fe9", func := "offertory/offertorylaw13.StatsOf", spec := "statsOf", inPlace := ["math/bits.Add64", "math/bits.Sub64"], unfollowed := true, recurses := true, apart := false, narrowed := true }
def StatsOfUptoSaid : Prop := statsOfUptoRow.holds Try.pinned (OpenSpec.upto statsOfSpec)

/-- 'offertorylaw13.StatsDecodes', WHERE WHAT IT READS IS OF BULK AT MOST 1048576: true; the input reads as it did. -/
def statsDecodesUptoRow : OpenClaim := { program := "ytdpekjffjobabaa", sum := "4990a20f96429fd5065c547c949c7058f1a5581b68a02b7180a8c52835692fe9", func := "offertory/offertorylaw13.StatsDecodes", spec := "statsDecodes", inPlace := ["math/bits.Add64", "math/bits.Sub64"], unfollowed := true, recurses := true, apart := false, narrowed := true }
def StatsDecodesUptoSaid : Prop := statsDecodesUptoRow.holds Try.pinned (OpenSpec.upto statsDecodesSpec)

/-- 'offertorylaw13.StatsBack', WHERE WHAT IT READS IS OF BULK AT MOST 1048576: true; the input reads as it did. -/
def statsBackUptoRow : OpenClaim := { program := "ytdpekjffjobabaa", sum := "4990a20f96429fd5065c547c949c7058f1a5581b68a02b7180a8c52835692fe9", func := "offertory/offertorylaw13.StatsBack", spec := "statsBack", inPlace := ["math/bits.Add64", "math/bits.Sub64"], unfollowed := true, recurses := true, apart := false, narrowed := true }
def StatsBackUptoSaid : Prop := statsBackUptoRow.holds Try.pinned (OpenSpec.upto statsBackSpec)

/-- 'offertorylaw13.StatsSame', WHERE WHAT IT READS IS OF BULK AT MOST 1048576: true; the input reads as it did. -/
def statsSameUptoRow : OpenClaim := { program := "ytdpekjffjobabaa", sum := "4990a20f96429fd5065c547c949c7058f1a5581b68a02b7180a8c52835692fe9", func := "offertory/offertorylaw13.StatsSame", spec := "statsSame", inPlace := ["math/bits.Add64", "math/bits.Sub64"], unfollowed := true, recurses := true, apart := false, narrowed := true }
def StatsSameUptoSaid : Prop := statsSameUptoRow.holds Try.pinned (OpenSpec.upto statsSameSpec)

/-- 'offertorylaw13.StatsTimes', WHERE WHAT IT READS IS OF BULK AT MOST 1048576: true; the input reads as it did. -/
def statsTimesUptoRow : OpenClaim := { program := "ytdpekjffjobabaa", sum := "4990a20f96429fd5065c547c949c7058f1a5581b68a02b7180a8c52835692fe9", func := "offertory/offertorylaw13.StatsTimes", spec := "statsTimes", inPlace := ["math/bits.Add64", "math/bits.Sub64"], unfollowed := true, recurses := true, apart := false, narrowed := true }
def StatsTimesUptoSaid : Prop := statsTimesUptoRow.holds Try.pinned (OpenSpec.upto statsTimesSpec)

end Rows
end Go.Proofs.Ytdpekjffjobabaa
