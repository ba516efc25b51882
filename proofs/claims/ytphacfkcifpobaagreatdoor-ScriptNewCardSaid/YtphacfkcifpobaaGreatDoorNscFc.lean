/- Closed facts of ScriptNew's row, continued. -/
import Derived.Test.YtphacfkcifpobaaGreatDoorNscF
set_option maxRecDepth 100000
namespace Go.Proofs.YtphacfkcifpobaaGreatDoor.scriptNew
open Go
theorem fNamed : (Rows.scriptNewRow.named == Tryz.prog.varsNamed 3) = true := nam_of clos (by kernel_rfl)
end Go.Proofs.YtphacfkcifpobaaGreatDoor.scriptNew
