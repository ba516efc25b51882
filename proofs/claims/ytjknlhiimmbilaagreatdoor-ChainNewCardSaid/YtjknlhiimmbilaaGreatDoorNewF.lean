/- Closed facts of ChainNew's row that look at all functions that it reaches. -/
import Derived.Test.YtjknlhiimmbilaaGreatDoorRows
import Derived.JoinedOf
import Derived.KernelRfl
set_option maxRecDepth 100000
namespace Go.Proofs.YtjknlhiimmbilaaGreatDoor.chainNew
open Go
theorem fUnfollowed:Tryz.prog.unfollowed 3=true:=by kernel_rfl
theorem fRecurses:Tryz.prog.recurses 3=true:=by
 unfold Program.recurses;rw [fUnfollowed];rfl
end Go.Proofs.YtjknlhiimmbilaaGreatDoor.chainNew
