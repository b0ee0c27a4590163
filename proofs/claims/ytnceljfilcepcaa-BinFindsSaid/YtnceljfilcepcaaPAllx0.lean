/- The Go functions that the laws reach, as Lean functions, and that each call comes to what its function says. Written by a program of this session (a turned copy of the kit's print). No condition beyond those that each theorem states. -/
import Derived.Test.YtnceljfilcepcaaProg
import Derived.Below
import Derived.Deep.Draws
import Derived.Deep.AppendLies
import Derived.Maps.AppendAt
import Derived.OwnWalk
import Derived.Laws.BytesArg
import Derived.Laws.MakeOwn
import Derived.Laws.OwnMore
import Derived.Deep.OwnRows
import Derived.Tactics
import Derived.Lib.ConvBytes
import Derived.Laws.Slices
import Derived.WalkKit
import Derived.KernelRfl
import Derived.RowKit3
import Derived.Deep.LoopGhost
import Derived.Deep.QuietTactic
import Derived.BigQuiet
import Derived.WideLaws
import Derived.Deep.DeepCutAuto
import Derived.Deep.CutBlock
import Derived.Deep.RegionHeld3
import Derived.Laws.Rows
import Derived.Lib.AppendStr
import Derived.ArgAppend
import Derived.Laws.IdiomCopy
import Derived.OrdersHeld
import Derived.Laws.BitsLemmas
import Derived.RowKit
import Derived.Test.YtnceljfilcepcaaWWords
import Derived.Test.YtnceljfilcepcaaWLast
import Derived.Test.YtnceljfilcepcaaWTab
import Derived.Test.YtnceljfilcepcaaWFour
import Derived.Test.YtnceljfilcepcaaWQPut
import Derived.Test.YtnceljfilcepcaaWApart
import Derived.Test.YtnceljfilcepcaaWArr
import Derived.Test.YtnceljfilcepcaaWZeros
import Derived.Test.YtnceljfilcepcaaWFoot
import Derived.Test.YtnceljfilcepcaaWKept
import Derived.Test.YtnceljfilcepcaaWShare
import Derived.Test.YtnceljfilcepcaaWN
import Derived.Test.YtnceljfilcepcaaWFootNe
import Derived.Test.YtnceljfilcepcaaWAt
import Derived.Test.YtnceljfilcepcaaWEqStruct
import Derived.Test.YtnceljfilcepcaaWRepsOne
import Derived.Test.YtnceljfilcepcaaWInv
import Derived.Test.YtnceljfilcepcaaWInvWords
import Derived.Test.YtnceljfilcepcaaWGuard
import Derived.Test.YtnceljfilcepcaaWNEv
import Derived.Test.YtnceljfilcepcaaWMore
namespace Go.Proofs.Ytnceljfilcepcaa.PAll
open Go.RowKit Go.Proofs.YtnceljfilcepcaaW.PrintWords Go.Proofs.YtnceljfilcepcaaW.PrintLast Go.Proofs.YtnceljfilcepcaaW.PrintMore
attribute [local go_sem] max2_int min2_int max_two min_two max_three min_three max_four min_four   -- for this text's walks alone
set_option linter.unusedVariables false
set_option linter.unusedSimpArgs false



def errW : Option Int → Value
  | none => .nilIface
  | some c => .iface 0 (.int .i64 c)
theorem errW_none : errW none = .nilIface := rfl
theorem errW_some (c : Int) : errW (some c) = .iface 0 (.int .i64 c) := rfl

theorem info3 : (Try.prog.info? 3).map (fun i => (i.zero, i.size, i.bytes)) = some (some (.int .i64 0), 1, 8) := by kernel_rfl
-- the values' own types

end Go.Proofs.Ytnceljfilcepcaa.PAll
