import Derived.Test.YtdomplmilbkaeaaDoorVInv
import Derived.Test.YtdomplmilbkaeaaDoorVFootNe
namespace Go.Proofs.YtdomplmilbkaeaaDoorW.PrintWords
open Go.RowKit
end Go.Proofs.YtdomplmilbkaeaaDoorW.PrintWords
namespace Go.Proofs.YtdomplmilbkaeaaDoorW.PrintLast
section
variable {ops : Array Oper} {a : Act} {o og : Oper} {g : Nat} {t : Tmp} {u : Bool}
end
end Go.Proofs.YtdomplmilbkaeaaDoorW.PrintLast
