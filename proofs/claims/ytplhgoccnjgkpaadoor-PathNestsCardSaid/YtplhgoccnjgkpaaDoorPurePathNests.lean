/- What the row of PathNests asks in plain Lean. Conditions: none. -/
import Derived.Test.YtplhgoccnjgkpaaDoorPM7
namespace Go.Proofs.YtplhgoccnjgkpaaDoor.Pure
open Go.RowKit Go.Proofs.YtplhgoccnjgkpaaDoor.PPath Go.Proofs.YtplhgoccnjgkpaaDoorW.PrintWords Go.Proofs.YtplhgoccnjgkpaaDoorW.PrintLast
theorem PathNests : amphoralaw08_PathNests.Pure := fun a b c wa wb wc => PM.nests a b c wa wb wc
end Go.Proofs.YtplhgoccnjgkpaaDoor.Pure
