-- OUT OF WHAT print.sh PRINTED (35421559b90ae4d0a3588c463048766b98c2df88dd9212a6774a882060cdf62d): words that no text here uses are left out by a program of this session
import Derived.Test.YtpicmnkkkgedeaaDoorWFootNe
namespace Go.Proofs.YtpicmnkkkgedeaaDoorW.PrintWords
open Go.RowKit
section
variable {w w' u : World} {m B g : Nat} {o : Obj} {row : Option Nat} {S : Nat → Prop} {a : Addr} {v : Value}
end
namespace Kd
section
variable {α : Type} {d : Kd α} {e base n m : Nat} {ok : Nat → Prop} {w w' : World} {v : Value} {A : Option Addr} {xs : List α}
end
end Kd
end Go.Proofs.YtpicmnkkkgedeaaDoorW.PrintWords
