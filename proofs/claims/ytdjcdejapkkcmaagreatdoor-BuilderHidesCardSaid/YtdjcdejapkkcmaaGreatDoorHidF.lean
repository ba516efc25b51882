/- Closed facts of BuilderHides's row that look at all functions that it reaches. -/
import Derived.Test.YtdjcdejapkkcmaaGreatDoorRows
import Derived.JoinedOf
import Derived.KernelRfl
namespace Go.Proofs.YtdjcdejapkkcmaaGreatDoor.builderHides
open Go
set_option maxRecDepth 100000
theorem fUnfollowed : Tryz.prog.unfollowed 3 = true := by kernel_rfl
theorem fRecurses : Tryz.prog.recurses 3 = true := by
  unfold Program.recurses; rw [fUnfollowed]; rfl
end Go.Proofs.YtdjcdejapkkcmaaGreatDoor.builderHides
