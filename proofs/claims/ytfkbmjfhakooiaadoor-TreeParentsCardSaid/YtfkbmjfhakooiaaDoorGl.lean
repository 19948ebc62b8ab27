/- What the package-level variables hold that the walks read: the two tables of unicode/utf8. Conditions: as each theorem says. -/
import Derived.Test.YtfkbmjfhakooiaaDoorShelf
import Derived.Test.YtfkbmjfhakooiaaDoorWWords
namespace Go.Proofs.YtfkbmjfhakooiaaDoor.PTree
open Go.RowKit Go.Proofs.YtfkbmjfhakooiaaDoorW.PrintWords
set_option linter.unusedVariables false
/-- The variables that are read. -/
structure Gl (w : World) : Prop where
  tabs : Lib.Utf8Tabs (Tryd.laysValid_ren.g 3) (Tryd.laysValid_ren.g 4) w
theorem Gl.of {w w' : World} (h : Gl w) (hb : Below w.heap.size w w') : Gl w' := ⟨Go.Proofs.Utf8Tabs_below h.tabs hb⟩
theorem Gl.drewN {w : World} (h : Gl w) (n : Nat) : Gl (w.drewN n) := h.of (pw_below_drewN (Below.refl _ _) n)
end Go.Proofs.YtfkbmjfhakooiaaDoor.PTree
