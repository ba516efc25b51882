/- Proved: ScriptNew returns true for all rules, all seeds, both kinds of oracles and all numbers of nodes, and its arguments read afterwards as they read before; the package-level variables that the row lists are tied to the program's text; no other conditions. -/
import Derived.Test.YtphacfkcifpobaaGreatDoorNscL
import Derived.Test.YtphacfkcifpobaaGreatDoorNscFd
import Derived.Test.YtphacfkcifpobaaGreatDoorGoes
import Derived.Test.YtphacfkcifpobaaGreatDoorCards
import Derived.Test.YtphacfkcifpobaaGreatDoorTieA
import Derived.SevenTiedAt
import Derived.LaidMore
import Derived.Stop.Joined
set_option maxRecDepth 100000
namespace Go.Proofs.YtphacfkcifpobaaGreatDoor.scriptNew
open Go.ChangeShapes Go.WideShapes Go.ChangeAt Go.RowKit
theorem over : Rows.ScriptNewSaid :=
 OpenClaim.holds_of_wide 3 Tryz.f3 rfl rfl rfl rfl rfl rfl rfl ⟨rfl, rfl, rfl, rfl, rfl⟩ rfl rfl rfl rfl rfl (by kernel_rfl) Tryz.func3 closed
   (of_decide_eq_true (by kernel_rfl)) (by unfold Func.isWrapper; first | (rw [if_pos (by decide +kernel)]; kernel_rfl) | (rw [if_neg (by decide +kernel)]; exact ⟨rfl, rfl⟩))
   (fun os started H enc _ => lifted os started H enc)
theorem proved : Rows.ScriptNewCardSaid :=
 Claim7.holds_tied_plain_at .later [] _ true Rows.scriptNewCard.stood.harness true
   over (fun _ h => by cases h) (by kernel_rfl) (fun _ h => by cases h) scriptNew_row_tie rfl ⟨rfl, rfl⟩ (by kernel_rfl) rfl
   (fun f fn hf hfn => by
     obtain rfl : f = 3 := Option.some.inj ((show Tryz.prog.funcNamed "moidore/moidorelaw54.ScriptNew" = some 3 by kernel_rfl).symm.trans hf) |>.symm
     obtain rfl : fn = Tryz.f3 := (Option.some.inj (Tryz.func3.symm.trans hfn)).symm
     exact ⟨by kernel_rfl, fun j t ht => by
       rw [Tryz.params3] at ht
       have hm : t ∈ [26, 28, 3] := by simpa using Array.mem_of_getElem? ht
       have hall : ([26, 28, 3].all fun u => !Tryz.prog.wantsStandIn u) = true := by kernel_rfl
       exact (show Tryz.prog.wantsStandIn t = false by simpa using List.all_eq_true.1 hall t hm)⟩)
   (goesBy_none _ rfl).symm
#print axioms proved
end Go.Proofs.YtphacfkcifpobaaGreatDoor.scriptNew
