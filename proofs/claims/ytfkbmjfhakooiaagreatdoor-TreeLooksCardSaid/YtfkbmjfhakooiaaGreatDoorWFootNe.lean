/- Words of the kit's printer for this claim, of which only those are kept that the claim uses (wip/trimwords.py). Conditions: as each theorem says. -/
import Derived.Test.YtfkbmjfhakooiaaGreatDoorWN
/-! ### 52. A row that stays read whatever happens to a block (a set of blocks) doesn't lie there -/
namespace Go.Proofs.YtfkbmjfhakooiaaGreatDoorW.PrintWords
open Go.RowKit
namespace Kd
section
variable {α : Type} {d : Kd α} {W : World} {g n : Nat} {S ok : Nat → Prop} {A : Option Addr} {ad : Addr} {xs : List α}
end
end Kd
end Go.Proofs.YtfkbmjfhakooiaaGreatDoorW.PrintWords
