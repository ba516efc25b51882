/-
  DERIVED. GIVEN WITH THE SEED: THE CARDS: each row of YtpedicpoooehfaaGreatDoorRows.lean that lists a variable, with what it lists TIED to the program's text (the seventh form; the later family's looks); each row that meets fmt, with fmt's text TOLD by the authors' own Lean function (tested against real Go, not proved from fmt's source: count such statements apart). THE CARD IS WHAT COUNTS. Prove the row's statement (the work); the ties are given (YtpedicpoooehfaaGreatDoorTie.lean); close each card by the builder's one call (the guide's Derived/Test/ToyasCard.lean, 'card_holds'). Laid BY PROGRAM, IN A SANDBOX (cutbox-door.mjs). By AI agents, Wed Nov 11 2026. No macro, syntax, notation, axiom, sorry.
-/
import Derived.Test.YtpedicpoooehfaaGreatDoorRows
import GoSem.ClaimSeven
namespace Go.Proofs.YtpedicpoooehfaaGreatDoor
namespace Rows

/-- THE TIED CARD OF 'moidorelaw48.ChainFinal'. -/
def chainFinalCard : Claim7 := { stood := { row := chainFinalRow, standIns := [], harness := (true, "56674481afd7c90a4a1b960fae82ac89b173c7a30dca6b4c5e809a6cc01c0b94"), looks := true }, kinds := [], alts := [], laidByText := true, laidKinds := [.data, .data, .data, .sentinel, .sentinel, .data], laidTests := true, laidLooks := .later }
def ChainFinalCardSaid : Prop := Claim7.holds Tryz.pinned (.plain (OpenSpec.ofChange chainFinalSpec)) chainFinalCard

/-- THE SECOND FORM's CARD OF 'moidorelaw48.ChainFinal'. -/
def chainFinalUptoCard : Claim7 := { stood := { row := chainFinalUptoRow, standIns := [], harness := (true, "56674481afd7c90a4a1b960fae82ac89b173c7a30dca6b4c5e809a6cc01c0b94"), looks := true }, kinds := [], alts := [], laidByText := true, laidKinds := [.data, .data, .data, .sentinel, .sentinel, .data], laidTests := true, laidLooks := .later }
def ChainFinalUptoCardSaid : Prop := Claim7.holds Tryz.pinned (.plain (OpenSpec.upto chainFinalSpec)) chainFinalUptoCard
end Rows
end Go.Proofs.YtpedicpoooehfaaGreatDoor
