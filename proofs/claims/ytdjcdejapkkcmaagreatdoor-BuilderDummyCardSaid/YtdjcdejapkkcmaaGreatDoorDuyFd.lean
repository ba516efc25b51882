/- The facts of the row, joined. -/
import Derived.Test.YtdjcdejapkkcmaaGreatDoorDuyFb
import Derived.Test.YtdjcdejapkkcmaaGreatDoorDuyFc
import Derived.SevenTiedAt
import Derived.LaidMore
import Derived.Stop.Joined
namespace Go.Proofs.YtdjcdejapkkcmaaGreatDoor.builderDummy
open Go.ChangeShapes Go.WideShapes
set_option maxRecDepth 100000 in
set_option maxHeartbeats 40000000 in
theorem closed : joinedFacts Tryz.pinned.checked.prog 4 Tryz.f4 Rows.builderDummySpec Rows.builderDummyRow = true := by
  unfold joinedFacts
  simp only [Bool.and_eq_true]
  exact ⟨⟨⟨⟨⟨⟨⟨⟨⟨⟨⟨⟨⟨⟨⟨⟨⟨⟨⟨⟨⟨⟨⟨⟨⟨⟨⟨⟨⟨⟨⟨by as_aux_lemma => kernel_rfl, by as_aux_lemma => kernel_rfl⟩, by as_aux_lemma => kernel_rfl⟩, by as_aux_lemma => kernel_rfl⟩, by as_aux_lemma => kernel_rfl⟩, by as_aux_lemma => kernel_rfl⟩, by as_aux_lemma => kernel_rfl⟩, by as_aux_lemma => kernel_rfl⟩, by as_aux_lemma => kernel_rfl⟩, fInPlace⟩, beq_iff_eq.2 fUnfollowed.symm⟩, beq_iff_eq.2 fRecurses.symm⟩, fNamed⟩, by as_aux_lemma => kernel_rfl⟩, by as_aux_lemma => kernel_rfl⟩, by as_aux_lemma => kernel_rfl⟩, by as_aux_lemma => kernel_rfl⟩, by as_aux_lemma => kernel_rfl⟩, by as_aux_lemma => kernel_rfl⟩, by as_aux_lemma => kernel_rfl⟩, by as_aux_lemma => kernel_rfl⟩, by as_aux_lemma => kernel_rfl⟩, by as_aux_lemma => kernel_rfl⟩, by as_aux_lemma => kernel_rfl⟩, by as_aux_lemma => kernel_rfl⟩, by as_aux_lemma => kernel_rfl⟩, by as_aux_lemma => kernel_rfl⟩, by as_aux_lemma => kernel_rfl⟩, by as_aux_lemma => kernel_rfl⟩, by as_aux_lemma => kernel_rfl⟩, by as_aux_lemma => kernel_rfl⟩, by as_aux_lemma => kernel_rfl⟩
end Go.Proofs.YtdjcdejapkkcmaaGreatDoor.builderDummy
