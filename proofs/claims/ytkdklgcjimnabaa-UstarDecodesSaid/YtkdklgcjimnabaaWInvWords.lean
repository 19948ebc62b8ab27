/- Words of the kit's printer for this claim, of which only those are kept that the claim uses (wip/trimwords.py). Conditions: as each theorem says. -/
import Derived.Test.YtkdklgcjimnabaaWInv
import Derived.Test.YtkdklgcjimnabaaWFootNe
namespace Go.Proofs.YtkdklgcjimnabaaW.PrintWords
open Go.RowKit
end Go.Proofs.YtkdklgcjimnabaaW.PrintWords
namespace Go.Proofs.YtkdklgcjimnabaaW.PrintLast
section
variable {ops : Array Oper} {a : Act} {o og : Oper} {g : Nat} {t : Tmp} {u : Bool}
end
end Go.Proofs.YtkdklgcjimnabaaW.PrintLast
