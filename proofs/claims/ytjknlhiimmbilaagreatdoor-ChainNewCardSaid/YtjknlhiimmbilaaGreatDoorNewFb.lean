/- Closed facts of ChainNew's row, continued. -/
import Derived.Test.YtjknlhiimmbilaaGreatDoorNewF
set_option maxRecDepth 100000
namespace Go.Proofs.YtjknlhiimmbilaaGreatDoor.chainNew
open Go
theorem fInPlace:(Rows.chainNewRow.inPlace==Tryz.prog.inPlace 3)=true:=by kernel_rfl
end Go.Proofs.YtjknlhiimmbilaaGreatDoor.chainNew
