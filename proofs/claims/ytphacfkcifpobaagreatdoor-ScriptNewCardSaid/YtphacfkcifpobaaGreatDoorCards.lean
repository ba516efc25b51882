/-
  DERIVED. GIVEN WITH THE SEED: THE CARDS: each row of YtphacfkcifpobaaGreatDoorRows.lean that lists a variable, with what it lists TIED to the program's text (the seventh form; the later family's looks); each row that meets fmt, with fmt's text TOLD by the authors' own Lean function (tested against real Go, not proved from fmt's source: count such statements apart). THE CARD IS WHAT COUNTS. Prove the row's statement (the work); the ties are given (YtphacfkcifpobaaGreatDoorTie.lean); close each card by the builder's one call (the guide's Derived/Test/ToyasCard.lean, 'card_holds'). Laid BY PROGRAM, IN A SANDBOX (cutbox-door.mjs). By AI agents, Wed Nov 11 2026. No macro, syntax, notation, axiom, sorry.
-/
import Derived.Test.YtphacfkcifpobaaGreatDoorRows
import GoSem.ClaimSeven
namespace Go.Proofs.YtphacfkcifpobaaGreatDoor
namespace Rows

/-- THE TIED CARD OF 'moidorelaw54.ScriptNew'. -/
def scriptNewCard : Claim7 := { stood := { row := scriptNewRow, standIns := [], harness := (true, "86bbf533a53a2eeb773bc7ae9d6f216da27f96f588b7a46c4e5f8e22f98b9ccb"), looks := true }, kinds := [], alts := [], laidByText := true, laidKinds := [.pinned, .data, .sentinel, .sentinel, .data, .data, .data, .data], laidTests := true, laidLooks := .later }
def ScriptNewCardSaid : Prop := Claim7.holds Tryz.pinned (.plain (OpenSpec.ofChange scriptNewSpec)) scriptNewCard

/-- THE SECOND FORM's CARD OF 'moidorelaw54.ScriptNew'. -/
def scriptNewUptoCard : Claim7 := { stood := { row := scriptNewUptoRow, standIns := [], harness := (true, "86bbf533a53a2eeb773bc7ae9d6f216da27f96f588b7a46c4e5f8e22f98b9ccb"), looks := true }, kinds := [], alts := [], laidByText := true, laidKinds := [.pinned, .data, .sentinel, .sentinel, .data, .data, .data, .data], laidTests := true, laidLooks := .later }
def ScriptNewUptoCardSaid : Prop := Claim7.holds Tryz.pinned (.plain (OpenSpec.upto scriptNewSpec)) scriptNewUptoCard
end Rows
end Go.Proofs.YtphacfkcifpobaaGreatDoor
