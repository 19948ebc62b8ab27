import Derived.Test.YtcengaholljddaaDoorPX4
namespace Go.Proofs.YtcengaholljddaaDoor.Pure
open Go.RowKit Go.Proofs.YtcengaholljddaaDoor.PPax
theorem PaxLines : amphoralaw11_PaxLines.Pure := fun a0 a1 w0 _ => PX.lines a0 a1 w0
end Go.Proofs.YtcengaholljddaaDoor.Pure
