/- Closed facts of ChainFinal's row, continued. -/
import Derived.Test.YtpedicpoooehfaaGreatDoorFinF
namespace Go.Proofs.YtpedicpoooehfaaGreatDoor.chainFinal
open Go
set_option maxRecDepth 100000
theorem fNamed : (Rows.chainFinalRow.named == Tryz.prog.varsNamed 3) = true := by kernel_rfl
end Go.Proofs.YtpedicpoooehfaaGreatDoor.chainFinal
