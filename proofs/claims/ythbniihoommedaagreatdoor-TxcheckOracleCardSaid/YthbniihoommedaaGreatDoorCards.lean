/-
  DERIVED. GIVEN WITH THE SEED: THE CARDS: each row of YthbniihoommedaaGreatDoorRows.lean that lists a variable, with what it lists TIED to the program's text (the seventh form; the later family's looks); each row that meets fmt, with fmt's text TOLD by the authors' own Lean function (tested against real Go, not proved from fmt's source: count such statements apart). THE CARD IS WHAT COUNTS. Prove the row's statement (the work); the ties are given (YthbniihoommedaaGreatDoorTie.lean); close each card by the builder's one call (the guide's Derived/Test/ToyasCard.lean, 'card_holds'). Laid BY PROGRAM, IN A SANDBOX (cutbox-door.mjs). By AI agents, Wed Nov 11 2026. No macro, syntax, notation, axiom, sorry.
-/
import Derived.Test.YthbniihoommedaaGreatDoorRows
import GoSem.ClaimSeven
namespace Go.Proofs.YthbniihoommedaaGreatDoor
namespace Rows

/-- THE TIED CARD OF 'moidorelaw42.TxcheckOracle'. -/
def txcheckOracleCard : Claim7 := { stood := { row := txcheckOracleRow, standIns := [], harness := (true, "31351cf900d7a61b0de6b5bc29ce32f382f41240973b3098e8eaedb5ab8b2696"), looks := true }, kinds := [], alts := [], laidByText := true, laidKinds := [.data, .data, .data, .sentinel, .sentinel, .data], laidTests := true, laidLooks := .later }
def TxcheckOracleCardSaid : Prop := Claim7.holds Tryz.pinned (.plain (OpenSpec.ofChange txcheckOracleSpec)) txcheckOracleCard

/-- THE SECOND FORM's CARD OF 'moidorelaw42.TxcheckOracle'. -/
def txcheckOracleUptoCard : Claim7 := { stood := { row := txcheckOracleUptoRow, standIns := [], harness := (true, "31351cf900d7a61b0de6b5bc29ce32f382f41240973b3098e8eaedb5ab8b2696"), looks := true }, kinds := [], alts := [], laidByText := true, laidKinds := [.data, .data, .data, .sentinel, .sentinel, .data], laidTests := true, laidLooks := .later }
def TxcheckOracleUptoCardSaid : Prop := Claim7.holds Tryz.pinned (.plain (OpenSpec.upto txcheckOracleSpec)) txcheckOracleUptoCard
end Rows
end Go.Proofs.YthbniihoommedaaGreatDoor
