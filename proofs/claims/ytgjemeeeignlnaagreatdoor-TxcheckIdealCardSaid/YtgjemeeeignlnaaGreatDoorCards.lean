/-
  DERIVED. GIVEN WITH THE SEED: THE CARDS: each row of YtgjemeeeignlnaaGreatDoorRows.lean that lists a variable, with what it lists TIED to the program's text (the seventh form; the later family's looks); each row that meets fmt, with fmt's text TOLD by the authors' own Lean function (tested against real Go, not proved from fmt's source: count such statements apart). THE CARD IS WHAT COUNTS. Prove the row's statement (the work); the ties are given (YtgjemeeeignlnaaGreatDoorTie.lean); close each card by the builder's one call (the guide's Derived/Test/ToyasCard.lean, 'card_holds'). Laid BY PROGRAM, IN A SANDBOX (cutbox-door.mjs). By AI agents, Wed Nov 11 2026. No macro, syntax, notation, axiom, sorry.
-/
import Derived.Test.YtgjemeeeignlnaaGreatDoorRows
import GoSem.ClaimSeven
namespace Go.Proofs.YtgjemeeeignlnaaGreatDoor
namespace Rows

/-- THE TIED CARD OF 'moidorelaw42.TxcheckIdeal'. -/
def txcheckIdealCard : Claim7 := { stood := { row := txcheckIdealRow, standIns := [], harness := (true, "07812b4bdbc1fe8bc1c50feed20f6dd95b7e01ba47d5dca0bbeebf08a442fc23"), looks := true }, kinds := [], alts := [], laidByText := true, laidKinds := [.data, .data, .data, .sentinel, .sentinel, .data], laidTests := true, laidLooks := .later }
def TxcheckIdealCardSaid : Prop := Claim7.holds Tryz.pinned (.plain (OpenSpec.ofChange txcheckIdealSpec)) txcheckIdealCard

/-- THE SECOND FORM's CARD OF 'moidorelaw42.TxcheckIdeal'. -/
def txcheckIdealUptoCard : Claim7 := { stood := { row := txcheckIdealUptoRow, standIns := [], harness := (true, "07812b4bdbc1fe8bc1c50feed20f6dd95b7e01ba47d5dca0bbeebf08a442fc23"), looks := true }, kinds := [], alts := [], laidByText := true, laidKinds := [.data, .data, .data, .sentinel, .sentinel, .data], laidTests := true, laidLooks := .later }
def TxcheckIdealUptoCardSaid : Prop := Claim7.holds Tryz.pinned (.plain (OpenSpec.upto txcheckIdealSpec)) txcheckIdealUptoCard
end Rows
end Go.Proofs.YtgjemeeeignlnaaGreatDoor
