/- Closed facts of TxcheckIdeal's row that look at all functions that it reaches. -/
import Derived.Test.YtgjemeeeignlnaaGreatDoorRows
import Derived.JoinedOf
import Derived.KernelRfl
namespace Go.Proofs.YtgjemeeeignlnaaGreatDoor.txcheckIdeal
open Go
set_option maxRecDepth 100000
theorem fUnfollowed : Tryz.prog.unfollowed 3 = true := by kernel_rfl
theorem fRecurses : Tryz.prog.recurses 3 = true := by
  unfold Program.recurses; rw [fUnfollowed]; rfl
end Go.Proofs.YtgjemeeeignlnaaGreatDoor.txcheckIdeal
