/- Closed facts of ChainRefused's row, continued. -/
import Derived.Test.YtjdiofjjoefnhaaGreatDoorRfF
set_option maxRecDepth 100000
namespace Go.Proofs.YtjdiofjjoefnhaaGreatDoor.chainRefused
open Go
theorem sG:(Rows.chainRefusedRow.inPlace==Tryz.prog.inPlace 4)=true:=by kernel_rfl
end Go.Proofs.YtjdiofjjoefnhaaGreatDoor.chainRefused
