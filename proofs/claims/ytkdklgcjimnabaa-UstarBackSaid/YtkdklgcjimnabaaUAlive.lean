/- The fixed fact holds. Conditions: none. -/
import Derived.Test.YtkdklgcjimnabaaPUstarx6
import Derived.KernelRfl
namespace Go.Proofs.Ytkdklgcjimnabaa.PUstar
open Go.RowKit Go.Proofs.YtkdklgcjimnabaaW.PrintWords Go.Proofs.YtkdklgcjimnabaaW.PrintLast
set_option linter.unusedVariables false
set_option linter.unusedSimpArgs false
theorem alive_600 : amphoralaw10_alive.f 600 = some true := by kernel_rfl
theorem alive_all (k : Nat) (h : 600 ≤ k) : amphoralaw10_alive.f k = some true := at_rounds amphoralaw10_alive.mono h alive_600
end Go.Proofs.Ytkdklgcjimnabaa.PUstar
