/- Printed for this claim by a copy of the kit's print.py that takes functions walked by our own texts. Conditions: none. -/
import Derived.Test.YtabgknnnhhgliaaProg
import Derived.Below
import Derived.Deep.Draws
import Derived.Deep.AppendLies
import Derived.Maps.AppendAt
import Derived.OwnWalk
import Derived.Laws.BytesArg
import Derived.Laws.MakeOwn
import Derived.Laws.OwnMore
import Derived.Deep.OwnRows
import Derived.Tactics
import Derived.Lib.ConvBytes
import Derived.Laws.Slices
import Derived.WalkKit
import Derived.KernelRfl
import Derived.RowKit3
import Derived.Deep.LoopGhost
import Derived.Deep.QuietTactic
import Derived.BigQuiet
import Derived.WideLaws
import Derived.Deep.DeepCutAuto
import Derived.Deep.CutBlock
import Derived.Deep.RegionHeld3
import Derived.Laws.Rows
import Derived.Lib.AppendStr
import Derived.ArgAppend
import Derived.Laws.IdiomCopy
import Derived.OrdersHeld
import Derived.Laws.BitsLemmas
import Derived.RowKit
import Derived.Test.YtabgknnnhhgliaaLen64
import Derived.Deep.RegionWith
import Derived.Test.YtabgknnnhhgliaaWWords
import Derived.Test.YtabgknnnhhgliaaWLast
import Derived.Test.YtabgknnnhhgliaaWTab
import Derived.Test.YtabgknnnhhgliaaWFour
import Derived.Test.YtabgknnnhhgliaaWQPut
import Derived.Test.YtabgknnnhhgliaaWApart
import Derived.Test.YtabgknnnhhgliaaWArr
import Derived.Test.YtabgknnnhhgliaaWZeros
import Derived.Test.YtabgknnnhhgliaaWFoot
import Derived.Test.YtabgknnnhhgliaaWKept
import Derived.Test.YtabgknnnhhgliaaWShare
import Derived.Test.YtabgknnnhhgliaaWN
import Derived.Test.YtabgknnnhhgliaaWFootNe
import Derived.Test.YtabgknnnhhgliaaWAt
import Derived.Test.YtabgknnnhhgliaaWEqStruct
import Derived.Test.YtabgknnnhhgliaaWRepsOne
import Derived.Test.YtabgknnnhhgliaaWInv
import Derived.Test.YtabgknnnhhgliaaWInvWords
import Derived.Test.YtabgknnnhhgliaaWGuard
import Derived.Test.YtabgknnnhhgliaaWNEv
import Derived.Test.YtabgknnnhhgliaaWMore
namespace Go.Proofs.Ytabgknnnhhgliaa.PPoly
open Go.RowKit Go.Proofs.YtabgknnnhhgliaaW.PrintWords Go.Proofs.YtabgknnnhhgliaaW.PrintLast Go.Proofs.YtabgknnnhhgliaaW.PrintMore
attribute [local go_sem] max2_int min2_int max_two min_two max_three min_three max_four min_four   -- for this text's walks alone
set_option linter.unusedVariables false
set_option linter.unusedSimpArgs false



def errW : Option Int → Value
  | none => .nilIface
  | some c => .iface 39 (.int .i64 c)
theorem errW_none : errW none = .nilIface := rfl
theorem errW_some (c : Int) : errW (some c) = .iface 39 (.int .i64 c) := rfl

theorem info3 : (Try.prog.info? 3).map (fun i => (i.zero, i.size, i.bytes)) = some (some (.int .i64 0), 1, 8) := by kernel_rfl
theorem info22 : (Try.prog.info? 22).map (fun i => (i.zero, i.size, i.bytes)) = some (some (.int .u64 0), 1, 8) := by kernel_rfl
-- the values' own types

end Go.Proofs.Ytabgknnnhhgliaa.PPoly
