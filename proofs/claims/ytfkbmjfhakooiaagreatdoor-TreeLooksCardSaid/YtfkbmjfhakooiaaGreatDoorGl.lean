/- What the package-level variables hold that the walks read: the two tables of unicode/utf8. Conditions: as each theorem says. -/
import Derived.Test.YtfkbmjfhakooiaaGreatDoorShelf
import Derived.Test.YtfkbmjfhakooiaaGreatDoorWWords
namespace Go.Proofs.YtfkbmjfhakooiaaGreatDoor.PTree
open Go.RowKit Go.Proofs.YtfkbmjfhakooiaaGreatDoorW.PrintWords
set_option linter.unusedVariables false
/-- The variables that are read. -/
structure Gl (w : World) : Prop where
  tabs : Lib.Utf8Tabs (Tryz.laysValid_ren.g 3) (Tryz.laysValid_ren.g 4) w
theorem Gl.of {w w' : World} (h : Gl w) (hb : Below w.heap.size w w') : Gl w' := ⟨Go.Proofs.Utf8Tabs_below h.tabs hb⟩
theorem Gl.drewN {w : World} (h : Gl w) (n : Nat) : Gl (w.drewN n) := h.of (pw_below_drewN (Below.refl _ _) n)
end Go.Proofs.YtfkbmjfhakooiaaGreatDoor.PTree
