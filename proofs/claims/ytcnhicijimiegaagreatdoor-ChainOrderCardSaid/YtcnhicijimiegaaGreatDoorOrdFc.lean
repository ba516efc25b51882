/- Closed facts of ChainOrder's row, continued. -/
import Derived.Test.YtcnhicijimiegaaGreatDoorOrdF
set_option maxRecDepth 100000
namespace Go.Proofs.YtcnhicijimiegaaGreatDoor.chainOrder
open Go
theorem fNamed : (Rows.chainOrderRow.named == Tryz.prog.varsNamed 3) = true := by kernel_rfl
end Go.Proofs.YtcnhicijimiegaaGreatDoor.chainOrder
