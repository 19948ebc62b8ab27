/- Words of the kit's printer for this claim, of which only those are kept that the claim uses (wip/trimwords.py). Conditions: as each theorem says. -/
import Derived.Test.YtcengaholljddaaDoorWInv
import Derived.Test.YtcengaholljddaaDoorWFootNe
namespace Go.Proofs.YtcengaholljddaaDoorW.PrintWords
open Go.RowKit
end Go.Proofs.YtcengaholljddaaDoorW.PrintWords
namespace Go.Proofs.YtcengaholljddaaDoorW.PrintLast
section
variable {ops : Array Oper} {a : Act} {o og : Oper} {g : Nat} {t : Tmp} {u : Bool}
end
end Go.Proofs.YtcengaholljddaaDoorW.PrintLast
