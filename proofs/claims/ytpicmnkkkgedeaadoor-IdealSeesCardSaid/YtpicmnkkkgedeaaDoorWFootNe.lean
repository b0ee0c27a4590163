-- OUT OF WHAT print.sh PRINTED (35421559b90ae4d0a3588c463048766b98c2df88dd9212a6774a882060cdf62d): words that no text here uses are left out by a program of this session
import Derived.Test.YtpicmnkkkgedeaaDoorWN
namespace Go.Proofs.YtpicmnkkkgedeaaDoorW.PrintWords
open Go.RowKit
namespace Kd
section
variable {α : Type} {d : Kd α} {W : World} {g n : Nat} {S ok : Nat → Prop} {A : Option Addr} {ad : Addr} {xs : List α}
end
end Kd
end Go.Proofs.YtpicmnkkkgedeaaDoorW.PrintWords
