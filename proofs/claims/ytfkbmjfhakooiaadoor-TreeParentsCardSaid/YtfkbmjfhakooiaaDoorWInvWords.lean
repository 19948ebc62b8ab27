/- Words of the kit's printer for this claim, of which only those are kept that the claim uses (wip/trimwords.py). Conditions: as each theorem says. -/
import Derived.Test.YtfkbmjfhakooiaaDoorWInv
import Derived.Test.YtfkbmjfhakooiaaDoorWFootNe
namespace Go.Proofs.YtfkbmjfhakooiaaDoorW.PrintWords
open Go.RowKit
end Go.Proofs.YtfkbmjfhakooiaaDoorW.PrintWords
namespace Go.Proofs.YtfkbmjfhakooiaaDoorW.PrintLast
section
variable {ops : Array Oper} {a : Act} {o og : Oper} {g : Nat} {t : Tmp} {u : Bool}
end
end Go.Proofs.YtfkbmjfhakooiaaDoorW.PrintLast
