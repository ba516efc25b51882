/- Closed facts of ChainOrder's row, continued. -/
import Derived.Test.YtcnhicijimiegaaGreatDoorOrdF
set_option maxRecDepth 100000
namespace Go.Proofs.YtcnhicijimiegaaGreatDoor.chainOrder
open Go
theorem fInPlace : (Rows.chainOrderRow.inPlace == Tryz.prog.inPlace 3) = true := by kernel_rfl
end Go.Proofs.YtcnhicijimiegaaGreatDoor.chainOrder
