/- The Go functions that the laws reach, as Lean functions, and that each call comes to what its function says. Written by a program of this session (a turned copy of the kit's print). No condition beyond those that each theorem states. -/
import Derived.Test.YtehodkkpmoidhaaProg
import Derived.Below
import Derived.Deep.Draws
import Derived.Deep.AppendLies
import Derived.Maps.AppendAt
import Derived.OwnWalk
import Derived.Laws.BytesArg
import Derived.Laws.MakeOwn
import Derived.Laws.OwnMore
import Derived.Deep.OwnRows
import Derived.Tactics
import Derived.Lib.ConvBytes
import Derived.Laws.Slices
import Derived.WalkKit
import Derived.KernelRfl
import Derived.RowKit3
import Derived.Deep.LoopGhost
import Derived.Deep.QuietTactic
import Derived.BigQuiet
import Derived.WideLaws
import Derived.Deep.DeepCutAuto
import Derived.Deep.CutBlock
import Derived.Deep.RegionHeld3
import Derived.Laws.Rows
import Derived.Lib.AppendStr
import Derived.ArgAppend
import Derived.Laws.IdiomCopy
import Derived.OrdersHeld
import Derived.Laws.BitsLemmas
import Derived.RowKit
import Derived.Test.YtehodkkpmoidhaaWWords
import Derived.Test.YtehodkkpmoidhaaWLast
import Derived.Test.YtehodkkpmoidhaaWTab
import Derived.Test.YtehodkkpmoidhaaWFour
import Derived.Test.YtehodkkpmoidhaaWQPut
import Derived.Test.YtehodkkpmoidhaaWApart
import Derived.Test.YtehodkkpmoidhaaWArr
import Derived.Test.YtehodkkpmoidhaaWZeros
import Derived.Test.YtehodkkpmoidhaaWFoot
import Derived.Test.YtehodkkpmoidhaaWKept
import Derived.Test.YtehodkkpmoidhaaWShare
import Derived.Test.YtehodkkpmoidhaaWN
import Derived.Test.YtehodkkpmoidhaaWFootNe
import Derived.Test.YtehodkkpmoidhaaWAt
import Derived.Test.YtehodkkpmoidhaaWEqStruct
import Derived.Test.YtehodkkpmoidhaaWRepsOne
import Derived.Test.YtehodkkpmoidhaaWInv
import Derived.Test.YtehodkkpmoidhaaWInvWords
import Derived.Test.YtehodkkpmoidhaaWGuard
import Derived.Test.YtehodkkpmoidhaaWNEv
import Derived.Test.YtehodkkpmoidhaaWMore
namespace Go.Proofs.Ytehodkkpmoidhaa.PAll
open Go.RowKit Go.Proofs.YtehodkkpmoidhaaW.PrintWords Go.Proofs.YtehodkkpmoidhaaW.PrintLast Go.Proofs.YtehodkkpmoidhaaW.PrintMore
attribute [local go_sem] max2_int min2_int max_two min_two max_three min_three max_four min_four   -- for this text's walks alone
set_option linter.unusedVariables false
set_option linter.unusedSimpArgs false



def errW : Option Int → Value
  | none => .nilIface
  | some c => .iface 0 (.int .i64 c)
theorem errW_none : errW none = .nilIface := rfl
theorem errW_some (c : Int) : errW (some c) = .iface 0 (.int .i64 c) := rfl

theorem info3 : (Try.prog.info? 3).map (fun i => (i.zero, i.size, i.bytes)) = some (some (.int .i64 0), 1, 8) := by kernel_rfl
-- the values' own types

end Go.Proofs.Ytehodkkpmoidhaa.PAll
