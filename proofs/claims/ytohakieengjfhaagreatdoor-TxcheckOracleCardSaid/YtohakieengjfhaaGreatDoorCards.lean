/-
  DERIVED. GIVEN WITH THE SEED: THE CARDS: each row of YtohakieengjfhaaGreatDoorRows.lean that lists a variable, with what it lists TIED to the program's text (the seventh form; the later family's looks); each row that meets fmt, with fmt's text TOLD by the authors' own Lean function (tested against real Go, not proved from fmt's source: count such statements apart). THE CARD IS WHAT COUNTS. Prove the row's statement (the work); the ties are given (YtohakieengjfhaaGreatDoorTie.lean); close each card by the builder's one call (the guide's Derived/Test/ToyasCard.lean, 'card_holds'). Laid BY PROGRAM, IN A SANDBOX (cutbox-door.mjs). By AI agents, Wed Nov 11 2026. No macro, syntax, notation, axiom, sorry.
-/
import Derived.Test.YtohakieengjfhaaGreatDoorRows
import GoSem.ClaimSeven
namespace Go.Proofs.YtohakieengjfhaaGreatDoor
namespace Rows

/-- THE TIED CARD OF 'moidorelaw42.TxcheckAgain'. -/
def txcheckAgainCard : Claim7 := { stood := { row := txcheckAgainRow, standIns := [], harness := (true, "33c02d3310c6a4e63a320bd4b4ea2695e21e8cb93a2fca00512b855b5aaaa5ea"), looks := true }, kinds := [], alts := [], laidByText := true, laidKinds := [.data, .data, .data, .sentinel, .sentinel, .data], laidTests := true, laidLooks := .later }
def TxcheckAgainCardSaid : Prop := Claim7.holds Tryz.pinned (.plain (OpenSpec.ofChange txcheckAgainSpec)) txcheckAgainCard

/-- THE TIED CARD OF 'moidorelaw42.TxcheckOracle'. -/
def txcheckOracleCard : Claim7 := { stood := { row := txcheckOracleRow, standIns := [], harness := (true, "33c02d3310c6a4e63a320bd4b4ea2695e21e8cb93a2fca00512b855b5aaaa5ea"), looks := true }, kinds := [], alts := [], laidByText := true, laidKinds := [.data, .data, .data, .sentinel, .sentinel, .data], laidTests := true, laidLooks := .later }
def TxcheckOracleCardSaid : Prop := Claim7.holds Tryz.pinned (.plain (OpenSpec.ofChange txcheckOracleSpec)) txcheckOracleCard

/-- THE TIED CARD OF 'moidorelaw42.TxcheckOpen'. -/
def txcheckOpenCard : Claim7 := { stood := { row := txcheckOpenRow, standIns := [], harness := (true, "33c02d3310c6a4e63a320bd4b4ea2695e21e8cb93a2fca00512b855b5aaaa5ea"), looks := true }, kinds := [], alts := [], laidByText := true, laidKinds := [.data, .data, .data, .sentinel, .sentinel, .data], laidTests := true, laidLooks := .later }
def TxcheckOpenCardSaid : Prop := Claim7.holds Tryz.pinned (.plain (OpenSpec.ofChange txcheckOpenSpec)) txcheckOpenCard

/-- THE TIED CARD OF 'moidorelaw42.TxcheckIdeal'. -/
def txcheckIdealCard : Claim7 := { stood := { row := txcheckIdealRow, standIns := [], harness := (true, "33c02d3310c6a4e63a320bd4b4ea2695e21e8cb93a2fca00512b855b5aaaa5ea"), looks := true }, kinds := [], alts := [], laidByText := true, laidKinds := [.data, .data, .data, .sentinel, .sentinel, .data], laidTests := true, laidLooks := .later }
def TxcheckIdealCardSaid : Prop := Claim7.holds Tryz.pinned (.plain (OpenSpec.ofChange txcheckIdealSpec)) txcheckIdealCard

/-- THE SECOND FORM's CARD OF 'moidorelaw42.TxcheckAgain'. -/
def txcheckAgainUptoCard : Claim7 := { stood := { row := txcheckAgainUptoRow, standIns := [], harness := (true, "33c02d3310c6a4e63a320bd4b4ea2695e21e8cb93a2fca00512b855b5aaaa5ea"), looks := true }, kinds := [], alts := [], laidByText := true, laidKinds := [.data, .data, .data, .sentinel, .sentinel, .data], laidTests := true, laidLooks := .later }
def TxcheckAgainUptoCardSaid : Prop := Claim7.holds Tryz.pinned (.plain (OpenSpec.upto txcheckAgainSpec)) txcheckAgainUptoCard

/-- THE SECOND FORM's CARD OF 'moidorelaw42.TxcheckOracle'. -/
def txcheckOracleUptoCard : Claim7 := { stood := { row := txcheckOracleUptoRow, standIns := [], harness := (true, "33c02d3310c6a4e63a320bd4b4ea2695e21e8cb93a2fca00512b855b5aaaa5ea"), looks := true }, kinds := [], alts := [], laidByText := true, laidKinds := [.data, .data, .data, .sentinel, .sentinel, .data], laidTests := true, laidLooks := .later }
def TxcheckOracleUptoCardSaid : Prop := Claim7.holds Tryz.pinned (.plain (OpenSpec.upto txcheckOracleSpec)) txcheckOracleUptoCard

/-- THE SECOND FORM's CARD OF 'moidorelaw42.TxcheckOpen'. -/
def txcheckOpenUptoCard : Claim7 := { stood := { row := txcheckOpenUptoRow, standIns := [], harness := (true, "33c02d3310c6a4e63a320bd4b4ea2695e21e8cb93a2fca00512b855b5aaaa5ea"), looks := true }, kinds := [], alts := [], laidByText := true, laidKinds := [.data, .data, .data, .sentinel, .sentinel, .data], laidTests := true, laidLooks := .later }
def TxcheckOpenUptoCardSaid : Prop := Claim7.holds Tryz.pinned (.plain (OpenSpec.upto txcheckOpenSpec)) txcheckOpenUptoCard

/-- THE SECOND FORM's CARD OF 'moidorelaw42.TxcheckIdeal'. -/
def txcheckIdealUptoCard : Claim7 := { stood := { row := txcheckIdealUptoRow, standIns := [], harness := (true, "33c02d3310c6a4e63a320bd4b4ea2695e21e8cb93a2fca00512b855b5aaaa5ea"), looks := true }, kinds := [], alts := [], laidByText := true, laidKinds := [.data, .data, .data, .sentinel, .sentinel, .data], laidTests := true, laidLooks := .later }
def TxcheckIdealUptoCardSaid : Prop := Claim7.holds Tryz.pinned (.plain (OpenSpec.upto txcheckIdealSpec)) txcheckIdealUptoCard
end Rows
end Go.Proofs.YtohakieengjfhaaGreatDoor
