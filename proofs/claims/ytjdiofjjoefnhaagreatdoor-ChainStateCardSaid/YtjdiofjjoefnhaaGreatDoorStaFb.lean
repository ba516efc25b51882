/- Closed facts of ChainState's row, continued. -/
import Derived.Test.YtjdiofjjoefnhaaGreatDoorStaF
set_option maxRecDepth 100000
namespace Go.Proofs.YtjdiofjjoefnhaaGreatDoor.chainState
open Go
theorem sG:(Rows.chainStateRow.inPlace==Tryz.prog.inPlace 3)=true:=by kernel_rfl
end Go.Proofs.YtjdiofjjoefnhaaGreatDoor.chainState
