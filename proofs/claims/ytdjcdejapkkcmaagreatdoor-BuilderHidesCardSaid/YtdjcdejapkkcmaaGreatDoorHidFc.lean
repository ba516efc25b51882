/- Closed facts of BuilderHides's row, continued. -/
import Derived.Test.YtdjcdejapkkcmaaGreatDoorHidF
namespace Go.Proofs.YtdjcdejapkkcmaaGreatDoor.builderHides
open Go
set_option maxRecDepth 100000
theorem fNamed : (Rows.builderHidesRow.named == Tryz.prog.varsNamed 3) = true := by kernel_rfl
end Go.Proofs.YtdjcdejapkkcmaaGreatDoor.builderHides
