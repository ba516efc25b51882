/- The facts of the row, joined. -/
import Derived.Test.YtphacfkcifpobaaGreatDoorNscFb
import Derived.Test.YtphacfkcifpobaaGreatDoorNscFc
import Derived.Test.YtphacfkcifpobaaGreatDoorGoes
import Derived.SevenTiedAt
import Derived.LaidMore
import Derived.Stop.Joined
set_option maxRecDepth 100000
namespace Go.Proofs.YtphacfkcifpobaaGreatDoor.scriptNew
open Go.ChangeShapes Go.WideShapes
set_option maxHeartbeats 40000000 in
theorem closed : joinedFacts Tryz.pinned.checked.prog 3 Tryz.f3 Rows.scriptNewSpec Rows.scriptNewRow = true := by
 unfold joinedFacts
 simp only [Bool.and_eq_true]
 refine ⟨⟨⟨⟨⟨⟨⟨⟨⟨⟨⟨⟨⟨⟨⟨⟨⟨⟨⟨⟨⟨⟨⟨⟨⟨⟨⟨⟨⟨⟨⟨?_, laidOut⟩, ?_⟩, ?_⟩, ?_⟩, ?_⟩, ?_⟩, ?_⟩, ?_⟩, fInPlace⟩, beq_iff_eq.2 fUnfollowed.symm⟩, beq_iff_eq.2 fRecurses.symm⟩, fNamed⟩, ?_⟩, ?_⟩, ?_⟩, ?_⟩, ?_⟩, ?_⟩, ?_⟩, ?_⟩, ?_⟩, ?_⟩, ?_⟩, ?_⟩, ?_⟩, ?_⟩, ?_⟩, ?_⟩, ?_⟩, ?_⟩, ?_⟩ <;> as_aux_lemma => kernel_rfl
end Go.Proofs.YtphacfkcifpobaaGreatDoor.scriptNew
