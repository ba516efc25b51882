/- Closed facts of BuilderDummy's row, continued. -/
import Derived.Test.YtdjcdejapkkcmaaGreatDoorDuyF
namespace Go.Proofs.YtdjcdejapkkcmaaGreatDoor.builderDummy
open Go
set_option maxRecDepth 100000
theorem fNamed : (Rows.builderDummyRow.named == Tryz.prog.varsNamed 4) = true := by kernel_rfl
end Go.Proofs.YtdjcdejapkkcmaaGreatDoor.builderDummy
