/- Closed facts of ChainOrder's row that look at all functions that it reaches. -/
import Derived.Test.YtcnhicijimiegaaGreatDoorRows
import Derived.JoinedOf
import Derived.KernelRfl
set_option maxRecDepth 100000
namespace Go.Proofs.YtcnhicijimiegaaGreatDoor.chainOrder
open Go
theorem fUnfollowed : Tryz.prog.unfollowed 3 = true := by kernel_rfl
theorem fRecurses : Tryz.prog.recurses 3 = true := by
 unfold Program.recurses; rw [fUnfollowed]; rfl
end Go.Proofs.YtcnhicijimiegaaGreatDoor.chainOrder
