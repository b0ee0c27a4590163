-- OUT OF WHAT print.sh PRINTED (35421559b90ae4d0a3588c463048766b98c2df88dd9212a6774a882060cdf62d): words that no text here uses are left out by a program of this session
import Derived.Test.YticihbccflflfaaWWords
namespace Go.Proofs.YticihbccflflfaaW.PrintWords
open Go.RowKit
section
variable {P : Program} {ops : Array Oper} {rest : List Oper} {o : Oper} {a : Act} {Q : Exit → Act → World → Prop} {W : World}
end
end Go.Proofs.YticihbccflflfaaW.PrintWords
