/- Proved: ChainState returns true for all rules and all lists of blocks, and its arguments read afterwards as they read before; the package-level variables that the row lists are tied to the program's text; no other conditions. -/
import Derived.Test.YtjdiofjjoefnhaaGreatDoorStaL
import Derived.Test.YtjdiofjjoefnhaaGreatDoorStaFd
import Derived.Test.YtjdiofjjoefnhaaGreatDoorGoes
import Derived.Test.YtjdiofjjoefnhaaGreatDoorCards
import Derived.Test.YtjdiofjjoefnhaaGreatDoorTieA
set_option maxRecDepth 100000
namespace Go.Proofs.YtjdiofjjoefnhaaGreatDoor.chainState
open Go.ChangeShapes Go.WideShapes Go.ChangeAt Go.RowKit
theorem over:Rows.ChainStateSaid:=
 OpenClaim.holds_of_wide 3 Tryz.f3 rfl rfl rfl rfl rfl rfl rfl ⟨rfl,rfl,rfl,rfl,rfl⟩ rfl rfl rfl rfl rfl (by kernel_rfl) Tryz.func3 closed
  (mU (by kernel_rfl)) (by unfold Func.isWrapper;first|(rw [g7 (by decide+kernel)];kernel_rfl)|(rw [g3 (by decide+kernel)];exact⟨rfl,rfl⟩))
  (fun os started H enc _=>lifted os started H enc)
theorem proved:Rows.ChainStateCardSaid:=
 Claim7.holds_tied_plain_at .later [] _ true Rows.chainStateCard.stood.harness true
  over (fun _ h=>by cases h) (by kernel_rfl) (fun _ h=>by cases h) chainState_row_tie rfl ⟨rfl,rfl⟩ (by kernel_rfl) rfl
  (fun f y G K=>by
    obtain rfl : f = 3 := jR ((show Tryz.prog.funcNamed "moidore/moidorelaw48.ChainState" = some 3 by kernel_rfl).symm.trans G) |>.symm
    obtain rfl:y=Tryz.f3:=(jR (Tryz.func3.symm.trans K)).symm;exact⟨by kernel_rfl,fun j t ht=>by
     rw [Tryz.params3]at ht;have U:t∈ [26,27]:=(by simpa using Ud ht);have z:([26,27].all fun u=> !Tryz.prog.wantsStandIn u)=true:=(by kernel_rfl);exact(show Tryz.prog.wantsStandIn t=false by simpa using TJ.1 z t U)⟩)
  (sX _ rfl).symm
#print axioms proved
end Go.Proofs.YtjdiofjjoefnhaaGreatDoor.chainState
