/- Proved: ChainRefused returns true for all rules, all lists of blocks and all blocks, and its arguments read afterwards as they read before; the package-level variables that the row lists are tied to the program's text; no other conditions. -/
import Derived.Test.YtjdiofjjoefnhaaGreatDoorRfL
import Derived.Test.YtjdiofjjoefnhaaGreatDoorRfFd
import Derived.Test.YtjdiofjjoefnhaaGreatDoorGoes
import Derived.Test.YtjdiofjjoefnhaaGreatDoorCards
import Derived.Test.YtjdiofjjoefnhaaGreatDoorTieA
set_option maxRecDepth 100000
namespace Go.Proofs.YtjdiofjjoefnhaaGreatDoor.chainRefused
open Go.ChangeShapes Go.WideShapes Go.ChangeAt Go.RowKit
theorem over:Rows.ChainRefusedSaid:=
 OpenClaim.holds_of_wide 4 Tryz.f4 rfl rfl rfl rfl rfl rfl rfl ⟨rfl,rfl,rfl,rfl,rfl⟩ rfl rfl rfl rfl rfl (by kernel_rfl) Tryz.func4 closed
  (mU (by kernel_rfl)) (by unfold Func.isWrapper;first|(rw [g7 (by decide+kernel)];kernel_rfl)|(rw [g3 (by decide+kernel)];exact⟨rfl,rfl⟩))
  (fun os started H enc _=>lifted os started H enc)
theorem proved:Rows.ChainRefusedCardSaid:=
 Claim7.holds_tied_plain_at .later [] _ true Rows.chainRefusedCard.stood.harness true
  over (fun _ h=>by cases h) (by kernel_rfl) (fun _ h=>by cases h) chainRefused_row_tie rfl ⟨rfl,rfl⟩ (by kernel_rfl) rfl
  (fun f y G K=>by
    obtain rfl : f = 4 := jR ((show Tryz.prog.funcNamed "moidore/moidorelaw48.ChainRefused" = some 4 by kernel_rfl).symm.trans G) |>.symm
    obtain rfl:y=Tryz.f4:=(jR (Tryz.func4.symm.trans K)).symm;exact⟨by kernel_rfl,fun j t ht=>by
     rw [Tryz.params4]at ht;have U:t∈ [26,27,44]:=(by simpa using Ud ht);have z:([26,27,44].all fun u=> !Tryz.prog.wantsStandIn u)=true:=(by kernel_rfl);exact(show Tryz.prog.wantsStandIn t=false by simpa using TJ.1 z t U)⟩)
  (sX _ rfl).symm
#print axioms proved
end Go.Proofs.YtjdiofjjoefnhaaGreatDoor.chainRefused
