/-
  No cell of these rows narrows 'for every input' (looked for: loops, veiled, ifaces, maps, wideKeys, modest, calm, conditions, laid).
  DERIVED. THE GIVEN ROWS OF THIS SEAT. 4 by the template 'for every input the law returns true; each argument reads behind the call as it read before'; 0 by the template 'total and deterministic' (their statements: YtjmfhlapjghipaaTotals.lean).
  GIVEN WITH THE SEED: the statements are not yours to turn. If you find one false, say at which input.
  Laid BY PROGRAM, IN A SANDBOX (cutbox-rows.mjs): the forced cells as the released guide's own fill.sh prints them over the translation fc30ebc91cafb5a1… (all of the seat's roots in one cut). By AI agents, Wed Nov 11 2026. No macro, syntax, notation, axiom, sorry.
-/
import Derived.Test.YtjmfhlapjghipaaChecked
import GoSem.Claim
import GoSem.ClaimJoined
import GoSem.ClaimMapViews
import Derived.JoinedTies
import Derived.KernelRfl
namespace Go.Proofs.Ytjmfhlapjghipaa
/- THE CELL 'sum', in the pinned program and in every row, IS THE sha256 OF THE DUMP (.gsa) THAT YtjmfhlapjghipaaProg.lean LOADS. Nothing in Lean hashes anything: it is a label: what it is worth is what the hold of that sum in a sandbox is worth. -/
noncomputable def Try.pinned : Pinned := { name := "ytjmfhlapjghipaa", sum := "fc30ebc91cafb5a1c84ab694747f263194e0758adfe77092d94196f069aa8655", checked := Try.checked }
namespace Rows
def none {H : Type} : Left H := { results := [], args := [] }

/-- 'offertorylaw19.BellPlays': WHATEVER THE INPUT: true; the input reads as it did. -/
def bellPlaysSpec : ChangeSpec := { name := "bellPlays", fn := fun _ => fun
  | [d] => { results := [.lit (.bool true)], args := [d] }
  | _ => none }
def bellPlaysRow : OpenClaim := { program := "ytjmfhlapjghipaa", sum := "fc30ebc91cafb5a1c84ab694747f263194e0758adfe77092d94196f069aa8655", func := "offertory/offertorylaw19.BellPlays", spec := "bellPlays", unfollowed := true, recurses := true, apart := false }
def BellPlaysSaid : Prop := bellPlaysRow.holds Try.pinned (OpenSpec.ofChange bellPlaysSpec)

/-- ITS FALSE NEIGHBOUR: 'it returns false'. Refute it at one input. -/
def bellPlaysWrong : ChangeSpec := { name := "bellPlays", fn := fun _ => fun
  | [d] => { results := [.lit (.bool false)], args := [d] }
  | _ => none }
def BellPlaysWrongFalsely : Prop := bellPlaysRow.holds Try.pinned (OpenSpec.ofChange bellPlaysWrong)

/-- 'offertorylaw19.BellAll': WHATEVER THE INPUT: true; the input reads as it did. -/
def bellAllSpec : ChangeSpec := { name := "bellAll", fn := fun _ => fun
  | [d] => { results := [.lit (.bool true)], args := [d] }
  | _ => none }
def bellAllRow : OpenClaim := { program := "ytjmfhlapjghipaa", sum := "fc30ebc91cafb5a1c84ab694747f263194e0758adfe77092d94196f069aa8655", func := "offertory/offertorylaw19.BellAll", spec := "bellAll", unfollowed := true, recurses := true, apart := false }
def BellAllSaid : Prop := bellAllRow.holds Try.pinned (OpenSpec.ofChange bellAllSpec)

/-- ITS FALSE NEIGHBOUR: 'it returns false'. Refute it at one input. -/
def bellAllWrong : ChangeSpec := { name := "bellAll", fn := fun _ => fun
  | [d] => { results := [.lit (.bool false)], args := [d] }
  | _ => none }
def BellAllWrongFalsely : Prop := bellAllRow.holds Try.pinned (OpenSpec.ofChange bellAllWrong)

/-- 'offertorylaw19.BellNone': WHATEVER THE INPUT: true; the input reads as it did. -/
def bellNoneSpec : ChangeSpec := { name := "bellNone", fn := fun _ => fun
  | [d1, d2] => { results := [.lit (.bool true)], args := [d1, d2] }
  | _ => none }
def bellNoneRow : OpenClaim := { program := "ytjmfhlapjghipaa", sum := "fc30ebc91cafb5a1c84ab694747f263194e0758adfe77092d94196f069aa8655", func := "offertory/offertorylaw19.BellNone", spec := "bellNone", unfollowed := true, recurses := true, apart := false }
def BellNoneSaid : Prop := bellNoneRow.holds Try.pinned (OpenSpec.ofChange bellNoneSpec)

/-- ITS FALSE NEIGHBOUR: 'it returns false'. Refute it at one input. -/
def bellNoneWrong : ChangeSpec := { name := "bellNone", fn := fun _ => fun
  | [d1, d2] => { results := [.lit (.bool false)], args := [d1, d2] }
  | _ => none }
def BellNoneWrongFalsely : Prop := bellNoneRow.holds Try.pinned (OpenSpec.ofChange bellNoneWrong)

/-- 'offertorylaw19.BellMoves': WHATEVER THE INPUT: true; the input reads as it did. -/
def bellMovesSpec : ChangeSpec := { name := "bellMoves", fn := fun _ => fun
  | [d1, d2, d3, d4] => { results := [.lit (.bool true)], args := [d1, d2, d3, d4] }
  | _ => none }
def bellMovesRow : OpenClaim := { program := "ytjmfhlapjghipaa", sum := "fc30ebc91cafb5a1c84ab694747f263194e0758adfe77092d94196f069aa8655", func := "offertory/offertorylaw19.BellMoves", spec := "bellMoves", unfollowed := true, recurses := true, apart := false }
def BellMovesSaid : Prop := bellMovesRow.holds Try.pinned (OpenSpec.ofChange bellMovesSpec)

/-- ITS FALSE NEIGHBOUR: 'it returns false'. Refute it at one input. -/
def bellMovesWrong : ChangeSpec := { name := "bellMoves", fn := fun _ => fun
  | [d1, d2, d3, d4] => { results := [.lit (.bool false)], args := [d1, d2, d3, d4] }
  | _ => none }
def BellMovesWrongFalsely : Prop := bellMovesRow.holds Try.pinned (OpenSpec.ofChange bellMovesWrong)

/- THE SECOND FORM. 'bulk': how many values and letters a reading holds, each counted each time it is reached (what is shared counts as often as it is met; a slice's spare places count too). A statement '..UptoSaid' is the law's where the arguments, and the package variables that the reading takes, are together of bulk at most 1048576: NARROWER than '..Said'. Prove '..Said' where nothing that the law and all that it calls make is longer than what came in: it says more and counts as full. Else prove '..UptoSaid'. A law counts once. -/
mutual
def uptoBulk {H : Type} : DataW H → Nat
  | .lit (.string bytes) => bytes.length + 1
  | .lit _ => 1
  | .nil => 1
  | .ptr d => uptoBulk d + 1
  | .slice elems spare => uptoBulkAll elems + uptoBulkAll spare + 1
  | .agg parts => uptoBulkAll parts + 1
  | .iface _ d => uptoBulk d + 1
  | .map entries => uptoBulkEntries entries + 1
  | .held _ => 1
def uptoBulkAll {H : Type} : List (DataW H) → Nat
  | [] => 0
  | d :: r => uptoBulk d + uptoBulkAll r
def uptoBulkEntries {H : Type} : List (Lit × DataW H) → Nat
  | [] => 0
  | x :: r => uptoBulkEntry x + uptoBulkEntries r
def uptoBulkEntry {H : Type} : Lit × DataW H → Nat
  | (.string bytes, d) => bytes.length + uptoBulk d + 1
  | (_, d) => uptoBulk d + 1
 end
def uptoSmall : (H : Type) → List (DataW H) → Bool := fun _ ds => decide (uptoBulkAll ds ≤ 1048576)
def OpenSpec.upto (s : _root_.Go.ChangeSpec) : _root_.Go.OpenSpec := { _root_.Go.OpenSpec.ofChange s with cond := some uptoSmall }

/-- 'offertorylaw19.BellPlays', WHERE WHAT IT READS IS OF BULK AT MOST 1048576: true; the input reads as it did. -/
def bellPlaysUptoRow : OpenClaim := { program := "ytjmfhlapjghipaa", sum := "fc30ebc91cafb5a1c84ab694747f263194e0758adfe77092d94196f069aa8655", func := "offertory/offertorylaw19.BellPlays", spec := "bellPlays", unfollowed := true, recurses := true, apart := false, narrowed := true }
def BellPlaysUptoSaid : Prop := bellPlaysUptoRow.holds Try.pinned (OpenSpec.upto bellPlaysSpec)

/-- 'offertorylaw19.BellAll', WHERE WHAT IT READS IS OF BULK AT MOST 1048576: true; the input reads as it did. -/
def bellAllUptoRow : OpenClaim := { program := "ytjmfhlapjghipaa", sum := "fc30ebc91cafb5a1c84ab694747f263194e0758adfe77092d94196f069aa8655", func := "offertory/offertorylaw19.BellAll", spec := "bellAll", unfollowed := true, recurses := true, apart := false, narrowed := true }
def BellAllUptoSaid : Prop := bellAllUptoRow.holds Try.pinned (OpenSpec.upto bellAllSpec)

/-- 'offertorylaw19.BellNone', WHERE WHAT IT READS IS OF BULK AT MOST 1048576: true; the input reads as it did. -/
def bellNoneUptoRow : OpenClaim := { program := "ytjmfhlapjghipaa", sum := "fc30ebc91cafb5a1c84ab694747f263194e0758adfe77092d94196f069aa8655", func := "offertory/offertorylaw19.BellNone", spec := "bellNone", unfollowed := true, recurses := true, apart := false, narrowed := true }
def BellNoneUptoSaid : Prop := bellNoneUptoRow.holds Try.pinned (OpenSpec.upto bellNoneSpec)

/-- 'offertorylaw19.BellMoves', WHERE WHAT IT READS IS OF BULK AT MOST 1048576: true; the input reads as it did. -/
def bellMovesUptoRow : OpenClaim := { program := "ytjmfhlapjghipaa", sum := "fc30ebc91cafb5a1c84ab694747f263194e0758adfe77092d94196f069aa8655", func := "offertory/offertorylaw19.BellMoves", spec := "bellMoves", unfollowed := true, recurses := true, apart := false, narrowed := true }
def BellMovesUptoSaid : Prop := bellMovesUptoRow.holds Try.pinned (OpenSpec.upto bellMovesSpec)

end Rows
end Go.Proofs.Ytjmfhlapjghipaa
