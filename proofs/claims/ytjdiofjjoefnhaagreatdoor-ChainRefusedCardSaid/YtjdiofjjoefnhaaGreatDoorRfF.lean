/- Closed facts of ChainRefused's row that look at all functions that it reaches. -/
import Derived.Test.YtjdiofjjoefnhaaGreatDoorMKit
import Derived.Test.YtjdiofjjoefnhaaGreatDoorRows
import Derived.JoinedOf
import Derived.KernelRfl
set_option maxRecDepth 100000
namespace Go.Proofs.YtjdiofjjoefnhaaGreatDoor.chainRefused
open Go
theorem ml:Tryz.prog.unfollowed 4=true:=by kernel_rfl
theorem q':Tryz.prog.recurses 4=true:=by
 unfold Program.recurses;rw [ml];rfl
end Go.Proofs.YtjdiofjjoefnhaaGreatDoor.chainRefused
