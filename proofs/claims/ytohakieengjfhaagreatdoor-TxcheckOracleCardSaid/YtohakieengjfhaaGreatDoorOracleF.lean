/- Closed facts of TxcheckOracle's row that look at all functions that it reaches. -/
import Derived.Test.YtohakieengjfhaaGreatDoorRows
import Derived.JoinedOf
import Derived.KernelRfl
namespace Go.Proofs.YtohakieengjfhaaGreatDoor.txcheckOracle
open Go
set_option maxRecDepth 100000
theorem fUnfollowed : Tryz.prog.unfollowed 4 = true := by kernel_rfl
theorem fRecurses : Tryz.prog.recurses 4 = true := by
  unfold Program.recurses; rw [fUnfollowed]; rfl
end Go.Proofs.YtohakieengjfhaaGreatDoor.txcheckOracle
