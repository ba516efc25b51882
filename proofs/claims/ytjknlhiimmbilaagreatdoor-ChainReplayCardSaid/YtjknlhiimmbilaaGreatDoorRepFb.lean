/- Closed facts of ChainReplay's row, continued. -/
import Derived.Test.YtjknlhiimmbilaaGreatDoorRepF
set_option maxRecDepth 100000
namespace Go.Proofs.YtjknlhiimmbilaaGreatDoor.chainReplay
open Go
theorem fInPlace:(Rows.chainReplayRow.inPlace==Tryz.prog.inPlace 4)=true:=by kernel_rfl
end Go.Proofs.YtjknlhiimmbilaaGreatDoor.chainReplay
