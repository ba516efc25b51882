/- Closed facts of BuilderHides's row, continued. -/
import Derived.Test.YtdjcdejapkkcmaaGreatDoorHidF
namespace Go.Proofs.YtdjcdejapkkcmaaGreatDoor.builderHides
open Go
set_option maxRecDepth 100000
theorem fInPlace : (Rows.builderHidesRow.inPlace == Tryz.prog.inPlace 3) = true := by kernel_rfl
end Go.Proofs.YtdjcdejapkkcmaaGreatDoor.builderHides
