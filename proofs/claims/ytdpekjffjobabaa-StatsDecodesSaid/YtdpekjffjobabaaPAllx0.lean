/- The Go functions that the laws reach, as Lean functions, and that each call comes to what its function says. Written by a program of this session (a turned copy of the kit's print). No condition beyond those that each theorem states. -/
import Derived.Test.YtdpekjffjobabaaProg
import Derived.Below
import Derived.Deep.Draws
import Derived.Deep.AppendLies
import Derived.Maps.AppendAt
import Derived.OwnWalk
import Derived.Laws.BytesArg
import Derived.Laws.MakeOwn
import Derived.Laws.OwnMore
import Derived.Deep.OwnRows
import Derived.Tactics
import Derived.Lib.ConvBytes
import Derived.Laws.Slices
import Derived.WalkKit
import Derived.KernelRfl
import Derived.RowKit3
import Derived.Deep.LoopGhost
import Derived.Deep.QuietTactic
import Derived.BigQuiet
import Derived.WideLaws
import Derived.Deep.DeepCutAuto
import Derived.Deep.CutBlock
import Derived.Deep.RegionHeld3
import Derived.Laws.Rows
import Derived.Lib.AppendStr
import Derived.ArgAppend
import Derived.Laws.IdiomCopy
import Derived.OrdersHeld
import Derived.Laws.BitsLemmas
import Derived.RowKit
import Derived.LoopN
import Derived.IntWalk
import Derived.Laws.Externs
import Derived.Laws.Bits64
import Derived.Laws.Bits64b
import Derived.StillTailTactics
import Derived.Test.YtdpekjffjobabaaWWords
import Derived.Test.YtdpekjffjobabaaWLast
import Derived.Test.YtdpekjffjobabaaWTab
import Derived.Test.YtdpekjffjobabaaWFour
import Derived.Test.YtdpekjffjobabaaWQPut
import Derived.Test.YtdpekjffjobabaaWApart
import Derived.Test.YtdpekjffjobabaaWArr
import Derived.Test.YtdpekjffjobabaaWZeros
import Derived.Test.YtdpekjffjobabaaWFoot
import Derived.Test.YtdpekjffjobabaaWKept
import Derived.Test.YtdpekjffjobabaaWShare
import Derived.Test.YtdpekjffjobabaaWN
import Derived.Test.YtdpekjffjobabaaWFootNe
import Derived.Test.YtdpekjffjobabaaWAt
import Derived.Test.YtdpekjffjobabaaWEqStruct
import Derived.Test.YtdpekjffjobabaaWRepsOne
import Derived.Test.YtdpekjffjobabaaWInv
import Derived.Test.YtdpekjffjobabaaWInvWords
import Derived.Test.YtdpekjffjobabaaWGuard
import Derived.Test.YtdpekjffjobabaaWNEv
import Derived.Test.YtdpekjffjobabaaWMore
namespace Go.Proofs.Ytdpekjffjobabaa.PAll
open Go.RowKit Go.Proofs.YtdpekjffjobabaaW.PrintWords Go.Proofs.YtdpekjffjobabaaW.PrintLast Go.Proofs.YtdpekjffjobabaaW.PrintMore
attribute [local go_sem] max2_int min2_int max_two min_two max_three min_three max_four min_four   -- for this text's walks alone
set_option linter.unusedVariables false
set_option linter.unusedSimpArgs false



def errW : Option Int → Value
  | none => .nilIface
  | some c => .iface 0 (.int .i64 c)
theorem errW_none : errW none = .nilIface := rfl
theorem errW_some (c : Int) : errW (some c) = .iface 0 (.int .i64 c) := rfl

theorem info3 : (Try.prog.info? 3).map (fun i => (i.zero, i.size, i.bytes)) = some (some (.int .i64 0), 1, 8) := by kernel_rfl
theorem info43 : (Try.prog.info? 43).map (fun i => (i.zero, i.size, i.bytes)) = some (some (.int .u32 0), 1, 4) := by kernel_rfl
-- the values' own types

abbrev T : Bool := true
abbrev F : Bool := false
end Go.Proofs.Ytdpekjffjobabaa.PAll
