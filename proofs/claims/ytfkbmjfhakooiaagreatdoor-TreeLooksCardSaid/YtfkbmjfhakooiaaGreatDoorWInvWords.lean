/- Words of the kit's printer for this claim, of which only those are kept that the claim uses (wip/trimwords.py). Conditions: as each theorem says. -/
import Derived.Test.YtfkbmjfhakooiaaGreatDoorWInv
import Derived.Test.YtfkbmjfhakooiaaGreatDoorWFootNe
namespace Go.Proofs.YtfkbmjfhakooiaaGreatDoorW.PrintWords
open Go.RowKit
end Go.Proofs.YtfkbmjfhakooiaaGreatDoorW.PrintWords
namespace Go.Proofs.YtfkbmjfhakooiaaGreatDoorW.PrintLast
section
variable {ops : Array Oper} {a : Act} {o og : Oper} {g : Nat} {t : Tmp} {u : Bool}
end
end Go.Proofs.YtfkbmjfhakooiaaGreatDoorW.PrintLast
