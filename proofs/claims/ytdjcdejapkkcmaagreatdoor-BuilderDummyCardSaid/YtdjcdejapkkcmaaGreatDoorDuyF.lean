/- Closed facts of BuilderDummy's row that look at all functions that it reaches. -/
import Derived.Test.YtdjcdejapkkcmaaGreatDoorRows
import Derived.JoinedOf
import Derived.KernelRfl
namespace Go.Proofs.YtdjcdejapkkcmaaGreatDoor.builderDummy
open Go
set_option maxRecDepth 100000
theorem fUnfollowed : Tryz.prog.unfollowed 4 = true := by kernel_rfl
theorem fRecurses : Tryz.prog.recurses 4 = true := by
  unfold Program.recurses; rw [fUnfollowed]; rfl
end Go.Proofs.YtdjcdejapkkcmaaGreatDoor.builderDummy
