/- Closed facts of TxcheckOracle's row, continued. -/
import Derived.Test.YtohakieengjfhaaGreatDoorOracleF
namespace Go.Proofs.YtohakieengjfhaaGreatDoor.txcheckOracle
open Go
set_option maxRecDepth 100000
theorem fInPlace : (Rows.txcheckOracleRow.inPlace == Tryz.prog.inPlace 4) = true := by kernel_rfl
end Go.Proofs.YtohakieengjfhaaGreatDoor.txcheckOracle
