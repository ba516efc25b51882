/- Closed facts of ChainFinal's row that look at all functions that it reaches. -/
import Derived.Test.YtpedicpoooehfaaGreatDoorRows
import Derived.JoinedOf
import Derived.KernelRfl
namespace Go.Proofs.YtpedicpoooehfaaGreatDoor.chainFinal
open Go
set_option maxRecDepth 100000
theorem fUnfollowed : Tryz.prog.unfollowed 3 = true := by kernel_rfl
theorem fRecurses : Tryz.prog.recurses 3 = true := by
  unfold Program.recurses; rw [fUnfollowed]; rfl
end Go.Proofs.YtpedicpoooehfaaGreatDoor.chainFinal
