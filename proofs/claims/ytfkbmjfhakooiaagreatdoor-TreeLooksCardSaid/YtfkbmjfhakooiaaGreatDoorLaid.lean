/- What the listed package-level variables hold, out of the row's condition, and a world that meets it. Conditions: none. -/
import Derived.Test.YtfkbmjfhakooiaaGreatDoorRows
import Derived.Test.YtfkbmjfhakooiaaGreatDoorGl
import Derived.LaidLaws
import Derived.Lib.LaidU8T
import Derived.WitnessAt
import Derived.KernelRfl
namespace Go.Proofs.YtfkbmjfhakooiaaGreatDoor.Laid
open Go.RowKit Go.ChangeShapes Go.WideShapes
set_option linter.unusedVariables false
set_option linter.unusedSimpArgs false
set_option maxRecDepth 100000
def list : List (String × DataW Unit) := [("unicode/utf8.acceptRanges", Rows.laid_unicode_utf8_acceptRanges), ("unicode/utf8.first", Rows.laid_unicode_utf8_first)]
theorem first_eq : Rows.laid_unicode_utf8_first = Lib.firstData := by kernel_rfl
theorem accept_eq : (Rows.laid_unicode_utf8_acceptRanges : DataW Unit) = Lib.acceptData := by kernel_rfl
theorem extra : U8Extra Tryz.prog Tryz.laysValid_ren := ⟨by kernel_rfl, by kernel_rfl, by kernel_rfl, by kernel_rfl, by kernel_rfl, by kernel_rfl, by kernel_rfl⟩
theorem gl {W : World} (h : laidMetH Tryz.prog list W) : PTree.Gl W := by
  have hL : laidMet Tryz.prog list W := h
  exact ⟨utf8Tabs_of_readsT (U8Types.of196 Tryz.laysValid) extra (first_eq ▸ Lib.laidMet.reads hL (.tail _ (.head _))) (accept_eq ▸ Lib.laidMet.reads hL (.head _))⟩
noncomputable def world (os : Os) : World :=
  let w0 := World.holding Tryz.prog os ⟨#[], #[], []⟩
  let put (h : Array Obj) (g : Nat) (cs : Array Value) : Array Obj := h.modify g fun
    | .cells _ t frozen => .cells cs t frozen
    | o => o
  { w0 with heap := put (put w0.heap 1 (Lib.firstTab.map fun z => Value.int .u8 z).toArray) 2 ((List.range 16).flatMap fun i => [Value.int .u8 (Lib.accLo i), Value.int .u8 (Lib.accHi i)]).toArray }
theorem world_met (os : Os) (args : Array Value) : laidMet Tryz.prog list ((world os).forCall (fun _ _ => 0) ⟨#[], args, []⟩).memory :=
  laidMet_of_run' 8 (by kernel_rfl) (by kernel_rfl)
end Go.Proofs.YtfkbmjfhakooiaaGreatDoor.Laid
