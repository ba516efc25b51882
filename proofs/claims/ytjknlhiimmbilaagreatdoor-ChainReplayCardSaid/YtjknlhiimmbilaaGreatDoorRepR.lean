/- Proved: ChainReplay returns true for all rules and all lists of blocks, and its arguments read afterwards as they read before; the package-level variables that the row lists are tied to the program's text; no other conditions. -/
import Derived.Test.YtjknlhiimmbilaaGreatDoorRepL
import Derived.Test.YtjknlhiimmbilaaGreatDoorRepFd
import Derived.Test.YtjknlhiimmbilaaGreatDoorGoes
import Derived.Test.YtjknlhiimmbilaaGreatDoorCards
import Derived.Test.YtjknlhiimmbilaaGreatDoorTieA
import Derived.SevenTiedAt
import Derived.LaidMore
import Derived.Stop.Joined
set_option maxRecDepth 100000
namespace Go.Proofs.YtjknlhiimmbilaaGreatDoor.chainReplay
open Go.ChangeShapes Go.WideShapes Go.ChangeAt Go.RowKit
theorem over:Rows.ChainReplaySaid:=
 OpenClaim.holds_of_wide 4 Tryz.f4 rfl rfl rfl rfl rfl rfl rfl ⟨rfl,rfl,rfl,rfl,rfl⟩ rfl rfl rfl rfl rfl (by kernel_rfl) Tryz.func4 closed
   (of_decide_eq_true (by kernel_rfl)) (by unfold Func.isWrapper;first|(rw [if_pos (by decide+kernel)];kernel_rfl)|(rw [if_neg (by decide+kernel)];exact⟨rfl,rfl⟩))
   (fun os started H enc _=>lifted os started H enc)
theorem proved:Rows.ChainReplayCardSaid:=
 Claim7.holds_tied_plain_at .later [] _ true Rows.chainReplayCard.stood.harness true
   over (fun _ h=>by cases h) (by kernel_rfl) (fun _ h=>by cases h) chainReplay_row_tie rfl ⟨rfl,rfl⟩ (by kernel_rfl) rfl
   (fun f fn hf hfn=>by
     obtain rfl : f = 4 := Option.some.inj ((show Tryz.prog.funcNamed "moidore/moidorelaw48.ChainReplay" = some 4 by kernel_rfl).symm.trans hf) |>.symm
     obtain rfl:fn=Tryz.f4:=(Option.some.inj (Tryz.func4.symm.trans hfn)).symm
     exact⟨by kernel_rfl,fun j t ht=>by
       rw [Tryz.params4]at ht
       have hm:t∈ [26,58]:=by simpa using Array.mem_of_getElem? ht
       have hall:([26,58].all fun u=> !Tryz.prog.wantsStandIn u)=true:=by kernel_rfl
       exact(show Tryz.prog.wantsStandIn t=false by simpa using List.all_eq_true.1 hall t hm)⟩)
   (goesBy_none _ rfl).symm
#print axioms proved
end Go.Proofs.YtjknlhiimmbilaaGreatDoor.chainReplay
