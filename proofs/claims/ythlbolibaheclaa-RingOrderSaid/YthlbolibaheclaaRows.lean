/-
  No cell of these rows narrows 'for every input' (looked for: loops, veiled, ifaces, maps, wideKeys, modest, calm, conditions, laid).
  DERIVED. THE GIVEN ROWS OF THIS SEAT. 4 by the template 'for every input the law returns true; each argument reads behind the call as it read before'; 0 by the template 'total and deterministic' (their statements: YthlbolibaheclaaTotals.lean).
  GIVEN WITH THE SEED: the statements are not yours to turn. If you find one false, say at which input.
  Laid BY PROGRAM, IN A SANDBOX (cutbox-rows.mjs): the forced cells as the released guide's own fill.sh prints them over the translation 813decca37a8c8cc… (all of the seat's roots in one cut). By AI agents, Wed Nov 11 2026. No macro, syntax, notation, axiom, sorry.
-/
import Derived.Test.YthlbolibaheclaaChecked
import GoSem.Claim
import GoSem.ClaimJoined
import GoSem.ClaimMapViews
import Derived.JoinedTies
import Derived.KernelRfl
namespace Go.Proofs.Ythlbolibaheclaa
/- THE CELL 'sum', in the pinned program and in every row, IS THE sha256 OF THE DUMP (.gsa) THAT YthlbolibaheclaaProg.lean LOADS. Nothing in Lean hashes anything: it is a label: what it is worth is what the hold of that sum in a sandbox is worth. -/
noncomputable def Try.pinned : Pinned := { name := "ythlbolibaheclaa", sum := "813decca37a8c8ccd63b9bd86ea62e9312d00113319803f10655ea7b3cbb756d", checked := Try.checked }
namespace Rows
def none {H : Type} : Left H := { results := [], args := [] }

/-- 'offertorylaw02.RingSums': WHATEVER THE INPUT: true; the input reads as it did. -/
def ringSumsSpec : ChangeSpec := { name := "ringSums", fn := fun _ => fun
  | [d1, d2] => { results := [.lit (.bool true)], args := [d1, d2] }
  | _ => none }
def ringSumsRow : OpenClaim := { program := "ythlbolibaheclaa", sum := "813decca37a8c8ccd63b9bd86ea62e9312d00113319803f10655ea7b3cbb756d", func := "offertory/offertorylaw02.RingSums", spec := "ringSums", unfollowed := true, recurses := true, apart := false }
def RingSumsSaid : Prop := ringSumsRow.holds Try.pinned (OpenSpec.ofChange ringSumsSpec)

/-- ITS FALSE NEIGHBOUR: 'it returns false'. Refute it at one input. -/
def ringSumsWrong : ChangeSpec := { name := "ringSums", fn := fun _ => fun
  | [d1, d2] => { results := [.lit (.bool false)], args := [d1, d2] }
  | _ => none }
def RingSumsWrongFalsely : Prop := ringSumsRow.holds Try.pinned (OpenSpec.ofChange ringSumsWrong)

/-- 'offertorylaw02.RingMany': WHATEVER THE INPUT: true; the input reads as it did. -/
def ringManySpec : ChangeSpec := { name := "ringMany", fn := fun _ => fun
  | [d1, d2] => { results := [.lit (.bool true)], args := [d1, d2] }
  | _ => none }
def ringManyRow : OpenClaim := { program := "ythlbolibaheclaa", sum := "813decca37a8c8ccd63b9bd86ea62e9312d00113319803f10655ea7b3cbb756d", func := "offertory/offertorylaw02.RingMany", spec := "ringMany", unfollowed := true, recurses := true, apart := false }
def RingManySaid : Prop := ringManyRow.holds Try.pinned (OpenSpec.ofChange ringManySpec)

/-- ITS FALSE NEIGHBOUR: 'it returns false'. Refute it at one input. -/
def ringManyWrong : ChangeSpec := { name := "ringMany", fn := fun _ => fun
  | [d1, d2] => { results := [.lit (.bool false)], args := [d1, d2] }
  | _ => none }
def RingManyWrongFalsely : Prop := ringManyRow.holds Try.pinned (OpenSpec.ofChange ringManyWrong)

/-- 'offertorylaw02.RingOrder': WHATEVER THE INPUT: true; the input reads as it did. -/
def ringOrderSpec : ChangeSpec := { name := "ringOrder", fn := fun _ => fun
  | [d1, d2, d3] => { results := [.lit (.bool true)], args := [d1, d2, d3] }
  | _ => none }
def ringOrderRow : OpenClaim := { program := "ythlbolibaheclaa", sum := "813decca37a8c8ccd63b9bd86ea62e9312d00113319803f10655ea7b3cbb756d", func := "offertory/offertorylaw02.RingOrder", spec := "ringOrder", unfollowed := true, recurses := true, apart := false }
def RingOrderSaid : Prop := ringOrderRow.holds Try.pinned (OpenSpec.ofChange ringOrderSpec)

/-- ITS FALSE NEIGHBOUR: 'it returns false'. Refute it at one input. -/
def ringOrderWrong : ChangeSpec := { name := "ringOrder", fn := fun _ => fun
  | [d1, d2, d3] => { results := [.lit (.bool false)], args := [d1, d2, d3] }
  | _ => none }
def RingOrderWrongFalsely : Prop := ringOrderRow.holds Try.pinned (OpenSpec.ofChange ringOrderWrong)

/-- 'offertorylaw02.RingBack': WHATEVER THE INPUT: true; the input reads as it did. -/
def ringBackSpec : ChangeSpec := { name := "ringBack", fn := fun _ => fun
  | [d1, d2] => { results := [.lit (.bool true)], args := [d1, d2] }
  | _ => none }
def ringBackRow : OpenClaim := { program := "ythlbolibaheclaa", sum := "813decca37a8c8ccd63b9bd86ea62e9312d00113319803f10655ea7b3cbb756d", func := "offertory/offertorylaw02.RingBack", spec := "ringBack", unfollowed := true, recurses := true, apart := false }
def RingBackSaid : Prop := ringBackRow.holds Try.pinned (OpenSpec.ofChange ringBackSpec)

/-- ITS FALSE NEIGHBOUR: 'it returns false'. Refute it at one input. -/
def ringBackWrong : ChangeSpec := { name := "ringBack", fn := fun _ => fun
  | [d1, d2] => { results := [.lit (.bool false)], args := [d1, d2] }
  | _ => none }
def RingBackWrongFalsely : Prop := ringBackRow.holds Try.pinned (OpenSpec.ofChange ringBackWrong)

/- THE SECOND FORM. 'bulk': how many values and letters a reading holds, each counted each time it is reached (what is shared counts as often as it is met; a slice's spare places count too). A statement '..UptoSaid' is the law's where the arguments, and the package variables that the reading takes, are together of bulk at most 1048576: NARROWER than '..Said'. Prove '..Said' where nothing that the law and all that it calls make is longer than what came in: it says more and counts as full. Else prove '..UptoSaid'. A law counts once. -/
mutual
def uptoBulk {H : Type} : DataW H → Nat
  | .lit (.string bytes) => bytes.length + 1
  | .lit _ => 1
  | .nil => 1
  | .ptr d => uptoBulk d + 1
  | .slice elems spare => uptoBulkAll elems + uptoBulkAll spare + 1
  | .agg parts => uptoBulkAll parts + 1
  | .iface _ d => uptoBulk d + 1
  | .map entries => uptoBulkEntries entries + 1
  | .held _ => 1
def uptoBulkAll {H : Type} : List (DataW H) → Nat
  | [] => 0
  | d :: r => uptoBulk d + uptoBulkAll r
def uptoBulkEntries {H : Type} : List (Lit × DataW H) → Nat
  | [] => 0
  | x :: r => uptoBulkEntry x + uptoBulkEntries r
def uptoBulkEntry {H : Type} : Lit × DataW H → Nat
  | (.string bytes, d) => bytes.length + uptoBulk d + 1
  | (_, d) => uptoBulk d + 1
 end
def uptoSmall : (H : Type) → List (DataW H) → Bool := fun _ ds => decide (uptoBulkAll ds ≤ 1048576)
def OpenSpec.upto (s : _root_.Go.ChangeSpec) : _root_.Go.OpenSpec := { _root_.Go.OpenSpec.ofChange s with cond := some uptoSmall }

/-- 'offertorylaw02.RingSums', WHERE WHAT IT READS IS OF BULK AT MOST 1048576: true; the input reads as it did. -/
def ringSumsUptoRow : OpenClaim := { program := "ythlbolibaheclaa", sum := "813decca37a8c8ccd63b9bd86ea62e9312d00113319803f10655ea7b3cbb756d", func := "offertory/offertorylaw02.RingSums", spec := "ringSums", unfollowed := true, recurses := true, apart := false, narrowed := true }
def RingSumsUptoSaid : Prop := ringSumsUptoRow.holds Try.pinned (OpenSpec.upto ringSumsSpec)

/-- 'offertorylaw02.RingMany', WHERE WHAT IT READS IS OF BULK AT MOST 1048576: true; the input reads as it did. -/
def ringManyUptoRow : OpenClaim := { program := "ythlbolibaheclaa", sum := "813decca37a8c8ccd63b9bd86ea62e9312d00113319803f10655ea7b3cbb756d", func := "offertory/offertorylaw02.RingMany", spec := "ringMany", unfollowed := true, recurses := true, apart := false, narrowed := true }
def RingManyUptoSaid : Prop := ringManyUptoRow.holds Try.pinned (OpenSpec.upto ringManySpec)

/-- 'offertorylaw02.RingOrder', WHERE WHAT IT READS IS OF BULK AT MOST 1048576: true; the input reads as it did. -/
def ringOrderUptoRow : OpenClaim := { program := "ythlbolibaheclaa", sum := "813decca37a8c8ccd63b9bd86ea62e9312d00113319803f10655ea7b3cbb756d", func := "offertory/offertorylaw02.RingOrder", spec := "ringOrder", unfollowed := true, recurses := true, apart := false, narrowed := true }
def RingOrderUptoSaid : Prop := ringOrderUptoRow.holds Try.pinned (OpenSpec.upto ringOrderSpec)

/-- 'offertorylaw02.RingBack', WHERE WHAT IT READS IS OF BULK AT MOST 1048576: true; the input reads as it did. -/
def ringBackUptoRow : OpenClaim := { program := "ythlbolibaheclaa", sum := "813decca37a8c8ccd63b9bd86ea62e9312d00113319803f10655ea7b3cbb756d", func := "offertory/offertorylaw02.RingBack", spec := "ringBack", unfollowed := true, recurses := true, apart := false, narrowed := true }
def RingBackUptoSaid : Prop := ringBackUptoRow.holds Try.pinned (OpenSpec.upto ringBackSpec)

end Rows
end Go.Proofs.Ythlbolibaheclaa
