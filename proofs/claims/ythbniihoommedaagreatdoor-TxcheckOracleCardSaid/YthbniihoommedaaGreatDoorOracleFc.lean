/- Closed facts of TxcheckOracle's row, continued. -/
import Derived.Test.YthbniihoommedaaGreatDoorOracleF
namespace Go.Proofs.YthbniihoommedaaGreatDoor.txcheckOracle
open Go
set_option maxRecDepth 100000
theorem fNamed : (Rows.txcheckOracleRow.named == Tryz.prog.varsNamed 3) = true := by kernel_rfl
end Go.Proofs.YthbniihoommedaaGreatDoor.txcheckOracle
