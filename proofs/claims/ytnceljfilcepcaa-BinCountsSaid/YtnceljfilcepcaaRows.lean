/-
  No cell of these rows narrows 'for every input' (looked for: loops, veiled, ifaces, maps, wideKeys, modest, calm, conditions, laid).
  DERIVED. THE GIVEN ROWS OF THIS SEAT. 4 by the template 'for every input the law returns true; each argument reads behind the call as it read before'; 0 by the template 'total and deterministic' (their statements: YtnceljfilcepcaaTotals.lean).
  GIVEN WITH THE SEED: the statements are not yours to turn. If you find one false, say at which input.
  Laid BY PROGRAM, IN A SANDBOX (cutbox-rows.mjs): the forced cells as the released guide's own fill.sh prints them over the translation acc98670ee790b81… (all of the seat's roots in one cut). By AI agents, Wed Nov 11 2026. No macro, syntax, notation, axiom, sorry.
-/
import Derived.Test.YtnceljfilcepcaaChecked
import GoSem.Claim
import GoSem.ClaimJoined
import GoSem.ClaimMapViews
import Derived.JoinedTies
import Derived.KernelRfl
namespace Go.Proofs.Ytnceljfilcepcaa
/- THE CELL 'sum', in the pinned program and in every row, IS THE sha256 OF THE DUMP (.gsa) THAT YtnceljfilcepcaaProg.lean LOADS. Nothing in Lean hashes anything: it is a label: what it is worth is what the hold of that sum in a sandbox is worth. -/
noncomputable def Try.pinned : Pinned := { name := "ytnceljfilcepcaa", sum := "acc98670ee790b81ad4d86609324301a87992df06989d92e5ede555fe19a126f", checked := Try.checked }
namespace Rows
def none {H : Type} : Left H := { results := [], args := [] }

/-- 'offertorylaw11.BinFinds': WHATEVER THE INPUT: true; the input reads as it did. -/
def binFindsSpec : ChangeSpec := { name := "binFinds", fn := fun _ => fun
  | [d1, d2] => { results := [.lit (.bool true)], args := [d1, d2] }
  | _ => none }
def binFindsRow : OpenClaim := { program := "ytnceljfilcepcaa", sum := "acc98670ee790b81ad4d86609324301a87992df06989d92e5ede555fe19a126f", func := "offertory/offertorylaw11.BinFinds", spec := "binFinds", apart := false }
def BinFindsSaid : Prop := binFindsRow.holds Try.pinned (OpenSpec.ofChange binFindsSpec)

/-- ITS FALSE NEIGHBOUR: 'it returns false'. Refute it at one input. -/
def binFindsWrong : ChangeSpec := { name := "binFinds", fn := fun _ => fun
  | [d1, d2] => { results := [.lit (.bool false)], args := [d1, d2] }
  | _ => none }
def BinFindsWrongFalsely : Prop := binFindsRow.holds Try.pinned (OpenSpec.ofChange binFindsWrong)

/-- 'offertorylaw11.BinCounts': WHATEVER THE INPUT: true; the input reads as it did. -/
def binCountsSpec : ChangeSpec := { name := "binCounts", fn := fun _ => fun
  | [d1, d2] => { results := [.lit (.bool true)], args := [d1, d2] }
  | _ => none }
def binCountsRow : OpenClaim := { program := "ytnceljfilcepcaa", sum := "acc98670ee790b81ad4d86609324301a87992df06989d92e5ede555fe19a126f", func := "offertory/offertorylaw11.BinCounts", spec := "binCounts", apart := false }
def BinCountsSaid : Prop := binCountsRow.holds Try.pinned (OpenSpec.ofChange binCountsSpec)

/-- ITS FALSE NEIGHBOUR: 'it returns false'. Refute it at one input. -/
def binCountsWrong : ChangeSpec := { name := "binCounts", fn := fun _ => fun
  | [d1, d2] => { results := [.lit (.bool false)], args := [d1, d2] }
  | _ => none }
def BinCountsWrongFalsely : Prop := binCountsRow.holds Try.pinned (OpenSpec.ofChange binCountsWrong)

/-- 'offertorylaw11.BinRises': WHATEVER THE INPUT: true; the input reads as it did. -/
def binRisesSpec : ChangeSpec := { name := "binRises", fn := fun _ => fun
  | [d1, d2, d3] => { results := [.lit (.bool true)], args := [d1, d2, d3] }
  | _ => none }
def binRisesRow : OpenClaim := { program := "ytnceljfilcepcaa", sum := "acc98670ee790b81ad4d86609324301a87992df06989d92e5ede555fe19a126f", func := "offertory/offertorylaw11.BinRises", spec := "binRises", apart := false }
def BinRisesSaid : Prop := binRisesRow.holds Try.pinned (OpenSpec.ofChange binRisesSpec)

/-- ITS FALSE NEIGHBOUR: 'it returns false'. Refute it at one input. -/
def binRisesWrong : ChangeSpec := { name := "binRises", fn := fun _ => fun
  | [d1, d2, d3] => { results := [.lit (.bool false)], args := [d1, d2, d3] }
  | _ => none }
def BinRisesWrongFalsely : Prop := binRisesRow.holds Try.pinned (OpenSpec.ofChange binRisesWrong)

/-- 'offertorylaw11.BinAll': WHATEVER THE INPUT: true; the input reads as it did. -/
def binAllSpec : ChangeSpec := { name := "binAll", fn := fun _ => fun
  | [d1, d2, d3] => { results := [.lit (.bool true)], args := [d1, d2, d3] }
  | _ => none }
def binAllRow : OpenClaim := { program := "ytnceljfilcepcaa", sum := "acc98670ee790b81ad4d86609324301a87992df06989d92e5ede555fe19a126f", func := "offertory/offertorylaw11.BinAll", spec := "binAll", apart := false }
def BinAllSaid : Prop := binAllRow.holds Try.pinned (OpenSpec.ofChange binAllSpec)

/-- ITS FALSE NEIGHBOUR: 'it returns false'. Refute it at one input. -/
def binAllWrong : ChangeSpec := { name := "binAll", fn := fun _ => fun
  | [d1, d2, d3] => { results := [.lit (.bool false)], args := [d1, d2, d3] }
  | _ => none }
def BinAllWrongFalsely : Prop := binAllRow.holds Try.pinned (OpenSpec.ofChange binAllWrong)

/- THE SECOND FORM. 'bulk': how many values and letters a reading holds, each counted each time it is reached (what is shared counts as often as it is met; a slice's spare places count too). A statement '..UptoSaid' is the law's where the arguments, and the package variables that the reading takes, are together of bulk at most 1048576: NARROWER than '..Said'. Prove '..Said' where nothing that the law and all that it calls make is longer than what came in: it says more and counts as full. Else prove '..UptoSaid'. A law counts once. -/
mutual
def uptoBulk {H : Type} : DataW H → Nat
  | .lit (.string bytes) => bytes.length + 1
  | .lit _ => 1
  | .nil => 1
  | .ptr d => uptoBulk d + 1
  | .slice elems spare => uptoBulkAll elems + uptoBulkAll spare + 1
  | .agg parts => uptoBulkAll parts + 1
  | .iface _ d => uptoBulk d + 1
  | .map entries => uptoBulkEntries entries + 1
  | .held _ => 1
def uptoBulkAll {H : Type} : List (DataW H) → Nat
  | [] => 0
  | d :: r => uptoBulk d + uptoBulkAll r
def uptoBulkEntries {H : Type} : List (Lit × DataW H) → Nat
  | [] => 0
  | x :: r => uptoBulkEntry x + uptoBulkEntries r
def uptoBulkEntry {H : Type} : Lit × DataW H → Nat
  | (.string bytes, d) => bytes.length + uptoBulk d + 1
  | (_, d) => uptoBulk d + 1
 end
def uptoSmall : (H : Type) → List (DataW H) → Bool := fun _ ds => decide (uptoBulkAll ds ≤ 1048576)
def OpenSpec.upto (s : _root_.Go.ChangeSpec) : _root_.Go.OpenSpec := { _root_.Go.OpenSpec.ofChange s with cond := some uptoSmall }

/-- 'offertorylaw11.BinFinds', WHERE WHAT IT READS IS OF BULK AT MOST 1048576: true; the input reads as it did. -/
def binFindsUptoRow : OpenClaim := { program := "ytnceljfilcepcaa", sum := "acc98670ee790b81ad4d86609324301a87992df06989d92e5ede555fe19a126f", func := "offertory/offertorylaw11.BinFinds", spec := "binFinds", apart := false, narrowed := true }
def BinFindsUptoSaid : Prop := binFindsUptoRow.holds Try.pinned (OpenSpec.upto binFindsSpec)

/-- 'offertorylaw11.BinCounts', WHERE WHAT IT READS IS OF BULK AT MOST 1048576: true; the input reads as it did. -/
def binCountsUptoRow : OpenClaim := { program := "ytnceljfilcepcaa", sum := "acc98670ee790b81ad4d86609324301a87992df06989d92e5ede555fe19a126f", func := "offertory/offertorylaw11.BinCounts", spec := "binCounts", apart := false, narrowed := true }
def BinCountsUptoSaid : Prop := binCountsUptoRow.holds Try.pinned (OpenSpec.upto binCountsSpec)

/-- 'offertorylaw11.BinRises', WHERE WHAT IT READS IS OF BULK AT MOST 1048576: true; the input reads as it did. -/
def binRisesUptoRow : OpenClaim := { program := "ytnceljfilcepcaa", sum := "acc98670ee790b81ad4d86609324301a87992df06989d92e5ede555fe19a126f", func := "offertory/offertorylaw11.BinRises", spec := "binRises", apart := false, narrowed := true }
def BinRisesUptoSaid : Prop := binRisesUptoRow.holds Try.pinned (OpenSpec.upto binRisesSpec)

/-- 'offertorylaw11.BinAll', WHERE WHAT IT READS IS OF BULK AT MOST 1048576: true; the input reads as it did. -/
def binAllUptoRow : OpenClaim := { program := "ytnceljfilcepcaa", sum := "acc98670ee790b81ad4d86609324301a87992df06989d92e5ede555fe19a126f", func := "offertory/offertorylaw11.BinAll", spec := "binAll", apart := false, narrowed := true }
def BinAllUptoSaid : Prop := binAllUptoRow.holds Try.pinned (OpenSpec.upto binAllSpec)

end Rows
end Go.Proofs.Ytnceljfilcepcaa
