/- Closed facts of TxcheckAgain's row, continued. -/
import Derived.Test.YthggdacincfplaaGreatDoorAgainF
namespace Go.Proofs.YthggdacincfplaaGreatDoor.txcheckAgain
open Go
set_option maxRecDepth 100000
theorem fNamed : (Rows.txcheckAgainRow.named == Tryz.prog.varsNamed 3) = true := by kernel_rfl
end Go.Proofs.YthggdacincfplaaGreatDoor.txcheckAgain
