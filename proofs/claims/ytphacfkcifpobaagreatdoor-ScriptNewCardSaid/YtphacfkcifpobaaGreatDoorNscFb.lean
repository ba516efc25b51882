/- Closed facts of ScriptNew's row, continued. -/
import Derived.Test.YtphacfkcifpobaaGreatDoorNscF
set_option maxRecDepth 100000
namespace Go.Proofs.YtphacfkcifpobaaGreatDoor.scriptNew
open Go
theorem fInPlace : (Rows.scriptNewRow.inPlace == Tryz.prog.inPlace 3) = true := inp_of clos (by kernel_rfl)
end Go.Proofs.YtphacfkcifpobaaGreatDoor.scriptNew
