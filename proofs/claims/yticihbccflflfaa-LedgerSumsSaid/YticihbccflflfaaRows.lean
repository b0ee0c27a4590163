/-
  No cell of these rows narrows 'for every input' (looked for: loops, veiled, ifaces, maps, wideKeys, modest, calm, conditions, laid).
  DERIVED. THE GIVEN ROWS OF THIS SEAT. 4 by the template 'for every input the law returns true; each argument reads behind the call as it read before'; 0 by the template 'total and deterministic' (their statements: YticihbccflflfaaTotals.lean).
  GIVEN WITH THE SEED: the statements are not yours to turn. If you find one false, say at which input.
  Laid BY PROGRAM, IN A SANDBOX (cutbox-rows.mjs): the forced cells as the released guide's own fill.sh prints them over the translation e6da4a072b3fbf73… (all of the seat's roots in one cut). By AI agents, Wed Nov 11 2026. No macro, syntax, notation, axiom, sorry.
-/
import Derived.Test.YticihbccflflfaaChecked
import GoSem.Claim
import GoSem.ClaimJoined
import GoSem.ClaimMapViews
import Derived.JoinedTies
import Derived.KernelRfl
namespace Go.Proofs.Yticihbccflflfaa
/- THE CELL 'sum', in the pinned program and in every row, IS THE sha256 OF THE DUMP (.gsa) THAT YticihbccflflfaaProg.lean LOADS. Nothing in Lean hashes anything: it is a label: what it is worth is what the hold of that sum in a sandbox is worth. -/
noncomputable def Try.pinned : Pinned := { name := "yticihbccflflfaa", sum := "e6da4a072b3fbf73f21063b40b754d531cc947a172230af4f56ba5f77d817b24", checked := Try.checked }
namespace Rows
def none {H : Type} : Left H := { results := [], args := [] }

/-- 'offertorylaw29.LedgerAdds': WHATEVER THE INPUT: true; the input reads as it did. -/
def ledgerAddsSpec : ChangeSpec := { name := "ledgerAdds", fn := fun _ => fun
  | [d1, d2] => { results := [.lit (.bool true)], args := [d1, d2] }
  | _ => none }
def ledgerAddsRow : OpenClaim := { program := "yticihbccflflfaa", sum := "e6da4a072b3fbf73f21063b40b754d531cc947a172230af4f56ba5f77d817b24", func := "offertory/offertorylaw29.LedgerAdds", spec := "ledgerAdds", inPlace := ["math/bits.Add64", "math/bits.Sub64"], unfollowed := true, recurses := true, apart := false }
def LedgerAddsSaid : Prop := ledgerAddsRow.holds Try.pinned (OpenSpec.ofChange ledgerAddsSpec)

/-- ITS FALSE NEIGHBOUR: 'it returns false'. Refute it at one input. -/
def ledgerAddsWrong : ChangeSpec := { name := "ledgerAdds", fn := fun _ => fun
  | [d1, d2] => { results := [.lit (.bool false)], args := [d1, d2] }
  | _ => none }
def LedgerAddsWrongFalsely : Prop := ledgerAddsRow.holds Try.pinned (OpenSpec.ofChange ledgerAddsWrong)

/-- 'offertorylaw29.LedgerSubs': WHATEVER THE INPUT: true; the input reads as it did. -/
def ledgerSubsSpec : ChangeSpec := { name := "ledgerSubs", fn := fun _ => fun
  | [d1, d2] => { results := [.lit (.bool true)], args := [d1, d2] }
  | _ => none }
def ledgerSubsRow : OpenClaim := { program := "yticihbccflflfaa", sum := "e6da4a072b3fbf73f21063b40b754d531cc947a172230af4f56ba5f77d817b24", func := "offertory/offertorylaw29.LedgerSubs", spec := "ledgerSubs", inPlace := ["math/bits.Sub64", "math/bits.Add64"], unfollowed := true, recurses := true, apart := false }
def LedgerSubsSaid : Prop := ledgerSubsRow.holds Try.pinned (OpenSpec.ofChange ledgerSubsSpec)

/-- ITS FALSE NEIGHBOUR: 'it returns false'. Refute it at one input. -/
def ledgerSubsWrong : ChangeSpec := { name := "ledgerSubs", fn := fun _ => fun
  | [d1, d2] => { results := [.lit (.bool false)], args := [d1, d2] }
  | _ => none }
def LedgerSubsWrongFalsely : Prop := ledgerSubsRow.holds Try.pinned (OpenSpec.ofChange ledgerSubsWrong)

/-- 'offertorylaw29.LedgerSums': WHATEVER THE INPUT: true; the input reads as it did. -/
def ledgerSumsSpec : ChangeSpec := { name := "ledgerSums", fn := fun _ => fun
  | [d1, d2] => { results := [.lit (.bool true)], args := [d1, d2] }
  | _ => none }
def ledgerSumsRow : OpenClaim := { program := "yticihbccflflfaa", sum := "e6da4a072b3fbf73f21063b40b754d531cc947a172230af4f56ba5f77d817b24", func := "offertory/offertorylaw29.LedgerSums", spec := "ledgerSums", inPlace := ["math/bits.Add64", "math/bits.Sub64"], unfollowed := true, recurses := true, apart := false }
def LedgerSumsSaid : Prop := ledgerSumsRow.holds Try.pinned (OpenSpec.ofChange ledgerSumsSpec)

/-- ITS FALSE NEIGHBOUR: 'it returns false'. Refute it at one input. -/
def ledgerSumsWrong : ChangeSpec := { name := "ledgerSums", fn := fun _ => fun
  | [d1, d2] => { results := [.lit (.bool false)], args := [d1, d2] }
  | _ => none }
def LedgerSumsWrongFalsely : Prop := ledgerSumsRow.holds Try.pinned (OpenSpec.ofChange ledgerSumsWrong)

/-- 'offertorylaw29.LedgerParts': WHATEVER THE INPUT: true; the input reads as it did. -/
def ledgerPartsSpec : ChangeSpec := { name := "ledgerParts", fn := fun _ => fun
  | [d1, d2, d3] => { results := [.lit (.bool true)], args := [d1, d2, d3] }
  | _ => none }
def ledgerPartsRow : OpenClaim := { program := "yticihbccflflfaa", sum := "e6da4a072b3fbf73f21063b40b754d531cc947a172230af4f56ba5f77d817b24", func := "offertory/offertorylaw29.LedgerParts", spec := "ledgerParts", inPlace := ["math/bits.Add64", "math/bits.Sub64"], unfollowed := true, recurses := true, apart := false }
def LedgerPartsSaid : Prop := ledgerPartsRow.holds Try.pinned (OpenSpec.ofChange ledgerPartsSpec)

/-- ITS FALSE NEIGHBOUR: 'it returns false'. Refute it at one input. -/
def ledgerPartsWrong : ChangeSpec := { name := "ledgerParts", fn := fun _ => fun
  | [d1, d2, d3] => { results := [.lit (.bool false)], args := [d1, d2, d3] }
  | _ => none }
def LedgerPartsWrongFalsely : Prop := ledgerPartsRow.holds Try.pinned (OpenSpec.ofChange ledgerPartsWrong)

/- THE SECOND FORM. 'bulk': how many values and letters a reading holds, each counted each time it is reached (what is shared counts as often as it is met; a slice's spare places count too). A statement '..UptoSaid' is the law's where the arguments, and the package variables that the reading takes, are together of bulk at most 1048576: NARROWER than '..Said'. Prove '..Said' where nothing that the law and all that it calls make is longer than what came in: it says more and counts as full. Else prove '..UptoSaid'. A law counts once. -/
mutual
def uptoBulk {H : Type} : DataW H → Nat
  | .lit (.string bytes) => bytes.length + 1
  | .lit _ => 1
  | .nil => 1
  | .ptr d => uptoBulk d + 1
  | .slice elems spare => uptoBulkAll elems + uptoBulkAll spare + 1
  | .agg parts => uptoBulkAll parts + 1
  | .iface _ d => uptoBulk d + 1
  | .map entries => uptoBulkEntries entries + 1
  | .held _ => 1
def uptoBulkAll {H : Type} : List (DataW H) → Nat
  | [] => 0
  | d :: r => uptoBulk d + uptoBulkAll r
def uptoBulkEntries {H : Type} : List (Lit × DataW H) → Nat
  | [] => 0
  | x :: r => uptoBulkEntry x + uptoBulkEntries r
def uptoBulkEntry {H : Type} : Lit × DataW H → Nat
  | (.string bytes, d) => bytes.length + uptoBulk d + 1
  | (_, d) => uptoBulk d + 1
 end
def uptoSmall : (H : Type) → List (DataW H) → Bool := fun _ ds => decide (uptoBulkAll ds ≤ 1048576)
def OpenSpec.upto (s : _root_.Go.ChangeSpec) : _root_.Go.OpenSpec := { _root_.Go.OpenSpec.ofChange s with cond := some uptoSmall }

/-- 'offertorylaw29.LedgerAdds', WHERE WHAT IT READS IS OF BULK AT MOST 1048576: true; the input reads as it did. -/
def ledgerAddsUptoRow : OpenClaim := { program := "yticihbccflflfaa", sum := "e6da4a072b3fbf73f21063b40b754d531cc947a172230af4f56ba5f77d817b24", func := "offertory/offertorylaw29.LedgerAdds", spec := "ledgerAdds", inPlace := ["math/bits.Add64", "math/bits.Sub64"], unfollowed := true, recurses := true, apart := false, narrowed := true }
def LedgerAddsUptoSaid : Prop := ledgerAddsUptoRow.holds Try.pinned (OpenSpec.upto ledgerAddsSpec)

/-- 'offertorylaw29.LedgerSubs', WHERE WHAT IT READS IS OF BULK AT MOST 1048576: true; the input reads as it did. -/
def ledgerSubsUptoRow : OpenClaim := { program := "yticihbccflflfaa", sum := "e6da4a072b3fbf73f21063b40b754d531cc947a172230af4f56ba5f77d817b24", func := "offertory/offertorylaw29.LedgerSubs", spec := "ledgerSubs", inPlace := ["math/bits.Sub64", "math/bits.Add64"], unfollowed := true, recurses := true, apart := false, narrowed := true }
def LedgerSubsUptoSaid : Prop := ledgerSubsUptoRow.holds Try.pinned (OpenSpec.upto ledgerSubsSpec)

/-- 'offertorylaw29.LedgerSums', WHERE WHAT IT READS IS OF BULK AT MOST 1048576: true; the input reads as it did. -/
def ledgerSumsUptoRow : OpenClaim := { program := "yticihbccflflfaa", sum := "e6da4a072b3fbf73f21063b40b754d531cc947a172230af4f56ba5f77d817b24", func := "offertory/offertorylaw29.LedgerSums", spec := "ledgerSums", inPlace := ["math/bits.Add64", "math/bits.Sub64"], unfollowed := true, recurses := true, apart := false, narrowed := true }
def LedgerSumsUptoSaid : Prop := ledgerSumsUptoRow.holds Try.pinned (OpenSpec.upto ledgerSumsSpec)

/-- 'offertorylaw29.LedgerParts', WHERE WHAT IT READS IS OF BULK AT MOST 1048576: true; the input reads as it did. -/
def ledgerPartsUptoRow : OpenClaim := { program := "yticihbccflflfaa", sum := "e6da4a072b3fbf73f21063b40b754d531cc947a172230af4f56ba5f77d817b24", func := "offertory/offertorylaw29.LedgerParts", spec := "ledgerParts", inPlace := ["math/bits.Add64", "math/bits.Sub64"], unfollowed := true, recurses := true, apart := false, narrowed := true }
def LedgerPartsUptoSaid : Prop := ledgerPartsUptoRow.holds Try.pinned (OpenSpec.upto ledgerPartsSpec)

end Rows
end Go.Proofs.Yticihbccflflfaa
