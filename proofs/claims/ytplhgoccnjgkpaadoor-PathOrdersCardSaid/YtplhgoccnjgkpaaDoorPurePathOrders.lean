/- What the row of PathOrders asks in plain Lean. Conditions: none. -/
import Derived.Test.YtplhgoccnjgkpaaDoorPM6
namespace Go.Proofs.YtplhgoccnjgkpaaDoor.Pure
open Go.RowKit Go.Proofs.YtplhgoccnjgkpaaDoor.PPath Go.Proofs.YtplhgoccnjgkpaaDoorW.PrintWords Go.Proofs.YtplhgoccnjgkpaaDoorW.PrintLast
theorem PathOrders : amphoralaw08_PathOrders.Pure := fun a b c wa wb wc => PM.orders a b c wa wb wc
end Go.Proofs.YtplhgoccnjgkpaaDoor.Pure
