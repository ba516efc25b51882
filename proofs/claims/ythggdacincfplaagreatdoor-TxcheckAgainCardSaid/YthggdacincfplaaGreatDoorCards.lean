/-
  DERIVED. GIVEN WITH THE SEED: THE CARDS: each row of YthggdacincfplaaGreatDoorRows.lean that lists a variable, with what it lists TIED to the program's text (the seventh form; the later family's looks); each row that meets fmt, with fmt's text TOLD by the authors' own Lean function (tested against real Go, not proved from fmt's source: count such statements apart). THE CARD IS WHAT COUNTS. Prove the row's statement (the work); the ties are given (YthggdacincfplaaGreatDoorTie.lean); close each card by the builder's one call (the guide's Derived/Test/ToyasCard.lean, 'card_holds'). Laid BY PROGRAM, IN A SANDBOX (cutbox-door.mjs). By AI agents, Wed Nov 11 2026. No macro, syntax, notation, axiom, sorry.
-/
import Derived.Test.YthggdacincfplaaGreatDoorRows
import GoSem.ClaimSeven
namespace Go.Proofs.YthggdacincfplaaGreatDoor
namespace Rows

/-- THE TIED CARD OF 'moidorelaw42.TxcheckAgain'. -/
def txcheckAgainCard : Claim7 := { stood := { row := txcheckAgainRow, standIns := [], harness := (true, "64fdaffc3ee608e5037c6507e24ed587dc1af5964785cfef22919334e9ea1842"), looks := true }, kinds := [], alts := [], laidByText := true, laidKinds := [.data, .data, .data, .sentinel, .sentinel, .data], laidTests := true, laidLooks := .later }
def TxcheckAgainCardSaid : Prop := Claim7.holds Tryz.pinned (.plain (OpenSpec.ofChange txcheckAgainSpec)) txcheckAgainCard

/-- THE SECOND FORM's CARD OF 'moidorelaw42.TxcheckAgain'. -/
def txcheckAgainUptoCard : Claim7 := { stood := { row := txcheckAgainUptoRow, standIns := [], harness := (true, "64fdaffc3ee608e5037c6507e24ed587dc1af5964785cfef22919334e9ea1842"), looks := true }, kinds := [], alts := [], laidByText := true, laidKinds := [.data, .data, .data, .sentinel, .sentinel, .data], laidTests := true, laidLooks := .later }
def TxcheckAgainUptoCardSaid : Prop := Claim7.holds Tryz.pinned (.plain (OpenSpec.upto txcheckAgainSpec)) txcheckAgainUptoCard
end Rows
end Go.Proofs.YthggdacincfplaaGreatDoor
