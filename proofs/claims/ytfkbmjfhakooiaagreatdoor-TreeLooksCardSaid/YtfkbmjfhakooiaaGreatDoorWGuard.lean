/- Words of the kit's printer for this claim, of which only those are kept that the claim uses (wip/trimwords.py). Conditions: as each theorem says. -/
import Derived.Test.YtfkbmjfhakooiaaGreatDoorWWords
/-! ### 58. A guarded operation whose guard is known to want it: the same goal without the guard -/
namespace Go.Proofs.YtfkbmjfhakooiaaGreatDoorW.PrintWords
open Go.RowKit
section
variable {P : Program} {ops : Array Oper} {rest : List Oper} {o : Oper} {a : Act} {Q : Exit → Act → World → Prop} {W : World}
end
end Go.Proofs.YtfkbmjfhakooiaaGreatDoorW.PrintWords
