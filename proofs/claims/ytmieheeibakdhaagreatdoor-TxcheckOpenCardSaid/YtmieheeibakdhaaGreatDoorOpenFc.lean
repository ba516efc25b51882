/- Closed facts of TxcheckOpen's row, continued. -/
import Derived.Test.YtmieheeibakdhaaGreatDoorOpenF
namespace Go.Proofs.YtmieheeibakdhaaGreatDoor.txcheckOpen
open Go
set_option maxRecDepth 100000
theorem fNamed : (Rows.txcheckOpenRow.named == Tryz.prog.varsNamed 3) = true := by kernel_rfl
end Go.Proofs.YtmieheeibakdhaaGreatDoor.txcheckOpen
