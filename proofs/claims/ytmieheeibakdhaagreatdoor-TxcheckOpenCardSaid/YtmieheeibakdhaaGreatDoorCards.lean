/-
  DERIVED. GIVEN WITH THE SEED: THE CARDS: each row of YtmieheeibakdhaaGreatDoorRows.lean that lists a variable, with what it lists TIED to the program's text (the seventh form; the later family's looks); each row that meets fmt, with fmt's text TOLD by the authors' own Lean function (tested against real Go, not proved from fmt's source: count such statements apart). THE CARD IS WHAT COUNTS. Prove the row's statement (the work); the ties are given (YtmieheeibakdhaaGreatDoorTie.lean); close each card by the builder's one call (the guide's Derived/Test/ToyasCard.lean, 'card_holds'). Laid BY PROGRAM, IN A SANDBOX (cutbox-door.mjs). By AI agents, Wed Nov 11 2026. No macro, syntax, notation, axiom, sorry.
-/
import Derived.Test.YtmieheeibakdhaaGreatDoorRows
import GoSem.ClaimSeven
namespace Go.Proofs.YtmieheeibakdhaaGreatDoor
namespace Rows

/-- THE TIED CARD OF 'moidorelaw42.TxcheckOpen'. -/
def txcheckOpenCard : Claim7 := { stood := { row := txcheckOpenRow, standIns := [], harness := (true, "6f6cb0f061ec7deca837854da37c455d148f44da5105dc273e63e92c2818848f"), looks := true }, kinds := [], alts := [], laidByText := true, laidKinds := [.data, .data, .data, .sentinel, .sentinel, .data], laidTests := true, laidLooks := .later }
def TxcheckOpenCardSaid : Prop := Claim7.holds Tryz.pinned (.plain (OpenSpec.ofChange txcheckOpenSpec)) txcheckOpenCard

/-- THE SECOND FORM's CARD OF 'moidorelaw42.TxcheckOpen'. -/
def txcheckOpenUptoCard : Claim7 := { stood := { row := txcheckOpenUptoRow, standIns := [], harness := (true, "6f6cb0f061ec7deca837854da37c455d148f44da5105dc273e63e92c2818848f"), looks := true }, kinds := [], alts := [], laidByText := true, laidKinds := [.data, .data, .data, .sentinel, .sentinel, .data], laidTests := true, laidLooks := .later }
def TxcheckOpenUptoCardSaid : Prop := Claim7.holds Tryz.pinned (.plain (OpenSpec.upto txcheckOpenSpec)) txcheckOpenUptoCard
end Rows
end Go.Proofs.YtmieheeibakdhaaGreatDoor
