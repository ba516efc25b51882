/- Closed facts of ChainState's row, continued. -/
import Derived.Test.YtjdiofjjoefnhaaGreatDoorStaF
set_option maxRecDepth 100000
namespace Go.Proofs.YtjdiofjjoefnhaaGreatDoor.chainState
open Go
theorem xR:(Rows.chainStateRow.named==Tryz.prog.varsNamed 3)=true:=by kernel_rfl
end Go.Proofs.YtjdiofjjoefnhaaGreatDoor.chainState
