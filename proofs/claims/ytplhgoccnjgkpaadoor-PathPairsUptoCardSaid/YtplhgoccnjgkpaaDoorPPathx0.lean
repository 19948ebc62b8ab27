/- Printed for this claim by a copy of the kit's print.py that takes functions walked by our own texts. Conditions: none. -/
import Derived.Test.YtplhgoccnjgkpaaDoorProg
import Derived.Test.YtplhgoccnjgkpaaDoorShelf
import Derived.Test.YtplhgoccnjgkpaaDoorSeq3
import Derived.Test.YtplhgoccnjgkpaaDoorGl
import Derived.WalkLawsBesides
import Derived.Below
import Derived.Deep.Draws
import Derived.Deep.AppendLies
import Derived.Maps.AppendAt
import Derived.OwnWalk
import Derived.Laws.BytesArg
import Derived.Laws.MakeOwn
import Derived.Laws.OwnMore
import Derived.Deep.OwnRows
import Derived.Tactics
import Derived.Lib.ConvBytes
import Derived.Laws.Slices
import Derived.WalkKit
import Derived.KernelRfl
import Derived.RowKit3
import Derived.Deep.LoopGhost
import Derived.Deep.QuietTactic
import Derived.BigQuiet
import Derived.WideLaws
import Derived.Deep.DeepCutAuto
import Derived.Deep.CutBlock
import Derived.Deep.RegionHeld3
import Derived.Laws.Rows
import Derived.Lib.AppendStr
import Derived.ArgAppend
import Derived.Laws.IdiomCopy
import Derived.OrdersHeld
import Derived.Laws.BitsLemmas
import Derived.RowKit
import Derived.Test.YtplhgoccnjgkpaaDoorWWords
import Derived.Test.YtplhgoccnjgkpaaDoorWLast
import Derived.Test.YtplhgoccnjgkpaaDoorWTab
import Derived.Test.YtplhgoccnjgkpaaDoorWFour
import Derived.Test.YtplhgoccnjgkpaaDoorWQPut
import Derived.Test.YtplhgoccnjgkpaaDoorWApart
import Derived.Test.YtplhgoccnjgkpaaDoorWArr
import Derived.Test.YtplhgoccnjgkpaaDoorWZeros
import Derived.Test.YtplhgoccnjgkpaaDoorWFoot
import Derived.Test.YtplhgoccnjgkpaaDoorWKept
import Derived.Test.YtplhgoccnjgkpaaDoorWShare
import Derived.Test.YtplhgoccnjgkpaaDoorWN
import Derived.Test.YtplhgoccnjgkpaaDoorWFootNe
import Derived.Test.YtplhgoccnjgkpaaDoorWAt
import Derived.Test.YtplhgoccnjgkpaaDoorWEqStruct
import Derived.Test.YtplhgoccnjgkpaaDoorWRepsOne
import Derived.Test.YtplhgoccnjgkpaaDoorWInv
import Derived.Test.YtplhgoccnjgkpaaDoorWInvWords
import Derived.Test.YtplhgoccnjgkpaaDoorWGuard
import Derived.Test.YtplhgoccnjgkpaaDoorWNEv
import Derived.Test.YtplhgoccnjgkpaaDoorWMore
namespace Go.Proofs.YtplhgoccnjgkpaaDoor.PPath
open Go.RowKit Go.Proofs.YtplhgoccnjgkpaaDoorW.PrintWords Go.Proofs.YtplhgoccnjgkpaaDoorW.PrintLast Go.Proofs.YtplhgoccnjgkpaaDoorW.PrintMore
attribute [local go_sem] max2_int min2_int max_two min_two max_three min_three max_four min_four   -- for this text's walks alone
set_option linter.unusedVariables false
set_option linter.unusedSimpArgs false



def errW : Option Int → Value
  | none => .nilIface
  | some c => .iface 46 (.int .i64 c)
theorem errW_none : errW none = .nilIface := rfl
theorem errW_some (c : Int) : errW (some c) = .iface 46 (.int .i64 c) := rfl

theorem info5 : (Tryd.prog.info? 5).map (fun i => (i.zero, i.size, i.bytes)) = some (some (.int .u8 0), 1, 1) := by kernel_rfl
theorem info9 : (Tryd.prog.info? 9).map (fun i => (i.zero, i.size, i.bytes)) = some (some (.string ⟨#[]⟩), 1, 16) := by kernel_rfl
-- the values' own types

end Go.Proofs.YtplhgoccnjgkpaaDoor.PPath
