/- Closed facts of TxcheckAgain's row, continued. -/
import Derived.Test.YthggdacincfplaaGreatDoorAgainF
namespace Go.Proofs.YthggdacincfplaaGreatDoor.txcheckAgain
open Go
set_option maxRecDepth 100000
theorem fInPlace : (Rows.txcheckAgainRow.inPlace == Tryz.prog.inPlace 3) = true := by kernel_rfl
end Go.Proofs.YthggdacincfplaaGreatDoor.txcheckAgain
