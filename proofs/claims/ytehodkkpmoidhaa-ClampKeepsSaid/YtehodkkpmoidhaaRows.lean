/-
  No cell of these rows narrows 'for every input' (looked for: loops, veiled, ifaces, maps, wideKeys, modest, calm, conditions, laid).
  DERIVED. THE GIVEN ROWS OF THIS SEAT. 4 by the template 'for every input the law returns true; each argument reads behind the call as it read before'; 0 by the template 'total and deterministic' (their statements: YtehodkkpmoidhaaTotals.lean).
  GIVEN WITH THE SEED: the statements are not yours to turn. If you find one false, say at which input.
  Laid BY PROGRAM, IN A SANDBOX (cutbox-rows.mjs): the forced cells as the released guide's own fill.sh prints them over the translation 12884b31dbe150ea… (all of the seat's roots in one cut). By AI agents, Wed Nov 11 2026. No macro, syntax, notation, axiom, sorry.
-/
import Derived.Test.YtehodkkpmoidhaaChecked
import GoSem.Claim
import GoSem.ClaimJoined
import GoSem.ClaimMapViews
import Derived.JoinedTies
import Derived.KernelRfl
namespace Go.Proofs.Ytehodkkpmoidhaa
/- THE CELL 'sum', in the pinned program and in every row, IS THE sha256 OF THE DUMP (.gsa) THAT YtehodkkpmoidhaaProg.lean LOADS. Nothing in Lean hashes anything: it is a label: what it is worth is what the hold of that sum in a sandbox is worth. -/
noncomputable def Try.pinned : Pinned := { name := "ytehodkkpmoidhaa", sum := "12884b31dbe150ea6227625f36fea0d90b7b2ea04c184c733660535be069e450", checked := Try.checked }
namespace Rows
def none {H : Type} : Left H := { results := [], args := [] }

/-- 'offertorylaw10.ClampSound': WHATEVER THE INPUT: true; the input reads as it did. -/
def clampSoundSpec : ChangeSpec := { name := "clampSound", fn := fun _ => fun
  | [d] => { results := [.lit (.bool true)], args := [d] }
  | _ => none }
def clampSoundRow : OpenClaim := { program := "ytehodkkpmoidhaa", sum := "12884b31dbe150ea6227625f36fea0d90b7b2ea04c184c733660535be069e450", func := "offertory/offertorylaw10.ClampSound", spec := "clampSound", apart := false }
def ClampSoundSaid : Prop := clampSoundRow.holds Try.pinned (OpenSpec.ofChange clampSoundSpec)

/-- ITS FALSE NEIGHBOUR: 'it returns false'. Refute it at one input. -/
def clampSoundWrong : ChangeSpec := { name := "clampSound", fn := fun _ => fun
  | [d] => { results := [.lit (.bool false)], args := [d] }
  | _ => none }
def ClampSoundWrongFalsely : Prop := clampSoundRow.holds Try.pinned (OpenSpec.ofChange clampSoundWrong)

/-- 'offertorylaw10.ClampBits': WHATEVER THE INPUT: true; the input reads as it did. -/
def clampBitsSpec : ChangeSpec := { name := "clampBits", fn := fun _ => fun
  | [d] => { results := [.lit (.bool true)], args := [d] }
  | _ => none }
def clampBitsRow : OpenClaim := { program := "ytehodkkpmoidhaa", sum := "12884b31dbe150ea6227625f36fea0d90b7b2ea04c184c733660535be069e450", func := "offertory/offertorylaw10.ClampBits", spec := "clampBits", apart := false }
def ClampBitsSaid : Prop := clampBitsRow.holds Try.pinned (OpenSpec.ofChange clampBitsSpec)

/-- ITS FALSE NEIGHBOUR: 'it returns false'. Refute it at one input. -/
def clampBitsWrong : ChangeSpec := { name := "clampBits", fn := fun _ => fun
  | [d] => { results := [.lit (.bool false)], args := [d] }
  | _ => none }
def ClampBitsWrongFalsely : Prop := clampBitsRow.holds Try.pinned (OpenSpec.ofChange clampBitsWrong)

/-- 'offertorylaw10.ClampKeeps': WHATEVER THE INPUT: true; the input reads as it did. -/
def clampKeepsSpec : ChangeSpec := { name := "clampKeeps", fn := fun _ => fun
  | [d1, d2] => { results := [.lit (.bool true)], args := [d1, d2] }
  | _ => none }
def clampKeepsRow : OpenClaim := { program := "ytehodkkpmoidhaa", sum := "12884b31dbe150ea6227625f36fea0d90b7b2ea04c184c733660535be069e450", func := "offertory/offertorylaw10.ClampKeeps", spec := "clampKeeps", apart := false }
def ClampKeepsSaid : Prop := clampKeepsRow.holds Try.pinned (OpenSpec.ofChange clampKeepsSpec)

/-- ITS FALSE NEIGHBOUR: 'it returns false'. Refute it at one input. -/
def clampKeepsWrong : ChangeSpec := { name := "clampKeeps", fn := fun _ => fun
  | [d1, d2] => { results := [.lit (.bool false)], args := [d1, d2] }
  | _ => none }
def ClampKeepsWrongFalsely : Prop := clampKeepsRow.holds Try.pinned (OpenSpec.ofChange clampKeepsWrong)

/-- 'offertorylaw10.ClampOnce': WHATEVER THE INPUT: true; the input reads as it did. -/
def clampOnceSpec : ChangeSpec := { name := "clampOnce", fn := fun _ => fun
  | [d1, d2, d3] => { results := [.lit (.bool true)], args := [d1, d2, d3] }
  | _ => none }
def clampOnceRow : OpenClaim := { program := "ytehodkkpmoidhaa", sum := "12884b31dbe150ea6227625f36fea0d90b7b2ea04c184c733660535be069e450", func := "offertory/offertorylaw10.ClampOnce", spec := "clampOnce", apart := false }
def ClampOnceSaid : Prop := clampOnceRow.holds Try.pinned (OpenSpec.ofChange clampOnceSpec)

/-- ITS FALSE NEIGHBOUR: 'it returns false'. Refute it at one input. -/
def clampOnceWrong : ChangeSpec := { name := "clampOnce", fn := fun _ => fun
  | [d1, d2, d3] => { results := [.lit (.bool false)], args := [d1, d2, d3] }
  | _ => none }
def ClampOnceWrongFalsely : Prop := clampOnceRow.holds Try.pinned (OpenSpec.ofChange clampOnceWrong)

/- THE SECOND FORM. 'bulk': how many values and letters a reading holds, each counted each time it is reached (what is shared counts as often as it is met; a slice's spare places count too). A statement '..UptoSaid' is the law's where the arguments, and the package variables that the reading takes, are together of bulk at most 1048576: NARROWER than '..Said'. Prove '..Said' where nothing that the law and all that it calls make is longer than what came in: it says more and counts as full. Else prove '..UptoSaid'. A law counts once. -/
mutual
def uptoBulk {H : Type} : DataW H → Nat
  | .lit (.string bytes) => bytes.length + 1
  | .lit _ => 1
  | .nil => 1
  | .ptr d => uptoBulk d + 1
  | .slice elems spare => uptoBulkAll elems + uptoBulkAll spare + 1
  | .agg parts => uptoBulkAll parts + 1
  | .iface _ d => uptoBulk d + 1
  | .map entries => uptoBulkEntries entries + 1
  | .held _ => 1
def uptoBulkAll {H : Type} : List (DataW H) → Nat
  | [] => 0
  | d :: r => uptoBulk d + uptoBulkAll r
def uptoBulkEntries {H : Type} : List (Lit × DataW H) → Nat
  | [] => 0
  | x :: r => uptoBulkEntry x + uptoBulkEntries r
def uptoBulkEntry {H : Type} : Lit × DataW H → Nat
  | (.string bytes, d) => bytes.length + uptoBulk d + 1
  | (_, d) => uptoBulk d + 1
 end
def uptoSmall : (H : Type) → List (DataW H) → Bool := fun _ ds => decide (uptoBulkAll ds ≤ 1048576)
def OpenSpec.upto (s : _root_.Go.ChangeSpec) : _root_.Go.OpenSpec := { _root_.Go.OpenSpec.ofChange s with cond := some uptoSmall }

/-- 'offertorylaw10.ClampSound', WHERE WHAT IT READS IS OF BULK AT MOST 1048576: true; the input reads as it did. -/
def clampSoundUptoRow : OpenClaim := { program := "ytehodkkpmoidhaa", sum := "12884b31dbe150ea6227625f36fea0d90b7b2ea04c184c733660535be069e450", func := "offertory/offertorylaw10.ClampSound", spec := "clampSound", apart := false, narrowed := true }
def ClampSoundUptoSaid : Prop := clampSoundUptoRow.holds Try.pinned (OpenSpec.upto clampSoundSpec)

/-- 'offertorylaw10.ClampBits', WHERE WHAT IT READS IS OF BULK AT MOST 1048576: true; the input reads as it did. -/
def clampBitsUptoRow : OpenClaim := { program := "ytehodkkpmoidhaa", sum := "12884b31dbe150ea6227625f36fea0d90b7b2ea04c184c733660535be069e450", func := "offertory/offertorylaw10.ClampBits", spec := "clampBits", apart := false, narrowed := true }
def ClampBitsUptoSaid : Prop := clampBitsUptoRow.holds Try.pinned (OpenSpec.upto clampBitsSpec)

/-- 'offertorylaw10.ClampKeeps', WHERE WHAT IT READS IS OF BULK AT MOST 1048576: true; the input reads as it did. -/
def clampKeepsUptoRow : OpenClaim := { program := "ytehodkkpmoidhaa", sum := "12884b31dbe150ea6227625f36fea0d90b7b2ea04c184c733660535be069e450", func := "offertory/offertorylaw10.ClampKeeps", spec := "clampKeeps", apart := false, narrowed := true }
def ClampKeepsUptoSaid : Prop := clampKeepsUptoRow.holds Try.pinned (OpenSpec.upto clampKeepsSpec)

/-- 'offertorylaw10.ClampOnce', WHERE WHAT IT READS IS OF BULK AT MOST 1048576: true; the input reads as it did. -/
def clampOnceUptoRow : OpenClaim := { program := "ytehodkkpmoidhaa", sum := "12884b31dbe150ea6227625f36fea0d90b7b2ea04c184c733660535be069e450", func := "offertory/offertorylaw10.ClampOnce", spec := "clampOnce", apart := false, narrowed := true }
def ClampOnceUptoSaid : Prop := clampOnceUptoRow.holds Try.pinned (OpenSpec.upto clampOnceSpec)

end Rows
end Go.Proofs.Ytehodkkpmoidhaa
