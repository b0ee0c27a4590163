-- OUT OF WHAT print.sh PRINTED (35421559b90ae4d0a3588c463048766b98c2df88dd9212a6774a882060cdf62d): words that no text here uses are left out by a program of this session
import Derived.Test.YtdpekjffjobabaaWInv
import Derived.Test.YtdpekjffjobabaaWFootNe
namespace Go.Proofs.YtdpekjffjobabaaW.PrintWords
open Go.RowKit
end Go.Proofs.YtdpekjffjobabaaW.PrintWords
namespace Go.Proofs.YtdpekjffjobabaaW.PrintLast
section
variable {ops : Array Oper} {a : Act} {o og : Oper} {g : Nat} {t : Tmp} {u : Bool}
end
end Go.Proofs.YtdpekjffjobabaaW.PrintLast
