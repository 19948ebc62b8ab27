/- What the row of PathGoods asks in plain Lean. Conditions: none. -/
import Derived.Test.YtplhgoccnjgkpaaDoorPM8
namespace Go.Proofs.YtplhgoccnjgkpaaDoor.Pure
open Go.RowKit Go.Proofs.YtplhgoccnjgkpaaDoor.PPath Go.Proofs.YtplhgoccnjgkpaaDoorW.PrintWords Go.Proofs.YtplhgoccnjgkpaaDoorW.PrintLast
theorem PathGoods : amphoralaw08_PathGoods.Pure := fun s m ws _ => PM.goods s m ws
end Go.Proofs.YtplhgoccnjgkpaaDoor.Pure
