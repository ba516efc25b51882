/- Closed facts of ChainSubmit's row, continued. -/
import Derived.Test.YtpkldapfgcjdcaaGreatDoorMKit
import Derived.Test.YtpkldapfgcjdcaaGreatDoorSubF
set_option maxRecDepth 100000
namespace Go.Proofs.YtpkldapfgcjdcaaGreatDoor.chainSubmit
open Go
theorem xR:(Rows.chainSubmitRow.named==Tryz.prog.varsNamed 4)=true:=by kernel_rfl
end Go.Proofs.YtpkldapfgcjdcaaGreatDoor.chainSubmit
