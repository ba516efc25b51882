/- Closed facts of ChainReplay's row, continued. -/
import Derived.Test.YtjknlhiimmbilaaGreatDoorRepF
set_option maxRecDepth 100000
namespace Go.Proofs.YtjknlhiimmbilaaGreatDoor.chainReplay
open Go
theorem fNamed:(Rows.chainReplayRow.named==Tryz.prog.varsNamed 4)=true:=by kernel_rfl
end Go.Proofs.YtjknlhiimmbilaaGreatDoor.chainReplay
