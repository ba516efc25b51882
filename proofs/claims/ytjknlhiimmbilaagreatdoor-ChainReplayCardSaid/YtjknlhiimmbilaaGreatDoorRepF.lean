/- Closed facts of ChainReplay's row that look at all functions that it reaches. -/
import Derived.Test.YtjknlhiimmbilaaGreatDoorRows
import Derived.JoinedOf
import Derived.KernelRfl
set_option maxRecDepth 100000
namespace Go.Proofs.YtjknlhiimmbilaaGreatDoor.chainReplay
open Go
theorem fUnfollowed:Tryz.prog.unfollowed 4=true:=by kernel_rfl
theorem fRecurses:Tryz.prog.recurses 4=true:=by
 unfold Program.recurses;rw [fUnfollowed];rfl
end Go.Proofs.YtjknlhiimmbilaaGreatDoor.chainReplay
