-- OUT OF WHAT print.sh PRINTED (35421559b90ae4d0a3588c463048766b98c2df88dd9212a6774a882060cdf62d): words that no text here uses are left out by a program of this session
import Derived.Test.YtpicmnkkkgedeaaDoorWInv
import Derived.Test.YtpicmnkkkgedeaaDoorWFootNe
namespace Go.Proofs.YtpicmnkkkgedeaaDoorW.PrintWords
open Go.RowKit
end Go.Proofs.YtpicmnkkkgedeaaDoorW.PrintWords
namespace Go.Proofs.YtpicmnkkkgedeaaDoorW.PrintLast
section
variable {ops : Array Oper} {a : Act} {o og : Oper} {g : Nat} {t : Tmp} {u : Bool}
end
end Go.Proofs.YtpicmnkkkgedeaaDoorW.PrintLast
