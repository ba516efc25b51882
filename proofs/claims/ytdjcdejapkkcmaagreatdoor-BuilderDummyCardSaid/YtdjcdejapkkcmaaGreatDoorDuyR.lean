/- Proved: BuilderDummy returns true for all seeds and all depths, and its arguments read afterwards as they read before; the package-level variables that the row lists are tied to the program's text; no other conditions. -/
import Derived.Test.YtdjcdejapkkcmaaGreatDoorDuyL
import Derived.Test.YtdjcdejapkkcmaaGreatDoorDuyFd
import Derived.Test.YtdjcdejapkkcmaaGreatDoorGoes
import Derived.Test.YtdjcdejapkkcmaaGreatDoorCards
import Derived.Test.YtdjcdejapkkcmaaGreatDoorTieA
import Derived.SevenTiedAt
import Derived.LaidMore
import Derived.Stop.Joined
namespace Go.Proofs.YtdjcdejapkkcmaaGreatDoor.builderDummy
open Go.ChangeShapes Go.WideShapes Go.ChangeAt Go.RowKit
theorem over : Rows.BuilderDummySaid :=
  OpenClaim.holds_of_wide 4 Tryz.f4 rfl rfl rfl rfl rfl rfl rfl ⟨rfl, rfl, rfl, rfl, rfl⟩ rfl rfl rfl rfl rfl (by kernel_rfl) Tryz.func4 closed
    (of_decide_eq_true (by kernel_rfl)) (by unfold Func.isWrapper; first | (rw [if_pos (by decide +kernel)]; kernel_rfl) | (rw [if_neg (by decide +kernel)]; exact ⟨rfl, rfl⟩))
    (fun os started H enc _ => lifted os started H enc)

set_option maxRecDepth 100000 in
theorem proved : Rows.BuilderDummyCardSaid :=
  Claim7.holds_tied_plain_at .later [] _ true Rows.builderDummyCard.stood.harness true
    over (fun _ h => by cases h) (by kernel_rfl) (fun _ h => by cases h) builderDummy_row_tie rfl ⟨rfl, rfl⟩ (by kernel_rfl) rfl
    (fun f fn hf hfn => by
      obtain rfl : f = 4 := Option.some.inj ((show Tryz.prog.funcNamed "moidore/moidorelaw43.BuilderDummy" = some 4 by kernel_rfl).symm.trans hf) |>.symm
      obtain rfl : fn = Tryz.f4 := (Option.some.inj (Tryz.func4.symm.trans hfn)).symm
      exact ⟨by kernel_rfl, fun j t ht => by
        rw [Tryz.params4] at ht
        have hm : t ∈ [24, 3] := by simpa using Array.mem_of_getElem? ht
        have hall : ([24, 3].all fun u => !Tryz.prog.wantsStandIn u) = true := by kernel_rfl
        exact (show Tryz.prog.wantsStandIn t = false by simpa using List.all_eq_true.1 hall t hm)⟩)
    (goesBy_none _ rfl).symm
#print axioms proved
end Go.Proofs.YtdjcdejapkkcmaaGreatDoor.builderDummy
