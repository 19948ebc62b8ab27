/- Words of the kit's printer for this claim, of which only those are kept that the claim uses (wip/trimwords.py). Conditions: as each theorem says. -/
import Derived.Test.YtfkbmjfhakooiaaDoorWLast
import Derived.Test.YtfkbmjfhakooiaaDoorWWords
/-! ### 50. A region's order in a table, made once a region: each step asks the table (numbers alone), not the operations -/
namespace Go.Proofs.YtfkbmjfhakooiaaDoorW.PrintLast
open Go.Proofs.YtfkbmjfhakooiaaDoorW.PrintWords (Aside0)
section
variable {md : Region.Mode} {ops : Array Oper} {T : Bool × List (List Nat × List Nat)} {l l' li lj lk : Array Bool} {ds : List Nat} {i j k : Nat}
end
end Go.Proofs.YtfkbmjfhakooiaaDoorW.PrintLast
