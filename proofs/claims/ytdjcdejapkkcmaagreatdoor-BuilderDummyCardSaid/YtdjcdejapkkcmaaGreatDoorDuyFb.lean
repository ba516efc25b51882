/- Closed facts of BuilderDummy's row, continued. -/
import Derived.Test.YtdjcdejapkkcmaaGreatDoorDuyF
namespace Go.Proofs.YtdjcdejapkkcmaaGreatDoor.builderDummy
open Go
set_option maxRecDepth 100000
theorem fInPlace : (Rows.builderDummyRow.inPlace == Tryz.prog.inPlace 4) = true := by kernel_rfl
end Go.Proofs.YtdjcdejapkkcmaaGreatDoor.builderDummy
