/- Closed facts of TxcheckIdeal's row, continued. -/
import Derived.Test.YtgjemeeeignlnaaGreatDoorIdealF
namespace Go.Proofs.YtgjemeeeignlnaaGreatDoor.txcheckIdeal
open Go
set_option maxRecDepth 100000
theorem fNamed : (Rows.txcheckIdealRow.named == Tryz.prog.varsNamed 3) = true := by kernel_rfl
end Go.Proofs.YtgjemeeeignlnaaGreatDoor.txcheckIdeal
