/-
  DERIVED. GIVEN WITH THE SEED: THE CARDS: each row of YtjknlhiimmbilaaGreatDoorRows.lean that lists a variable, with what it lists TIED to the program's text (the seventh form; the later family's looks); each row that meets fmt, with fmt's text TOLD by the authors' own Lean function (tested against real Go, not proved from fmt's source: count such statements apart). THE CARD IS WHAT COUNTS. Prove the row's statement (the work); the ties are given (YtjknlhiimmbilaaGreatDoorTie.lean); close each card by the builder's one call (the guide's Derived/Test/ToyasCard.lean, 'card_holds'). Laid BY PROGRAM, IN A SANDBOX (cutbox-door.mjs). By AI agents, Wed Nov 11 2026. No macro, syntax, notation, axiom, sorry.
-/
import Derived.Test.YtjknlhiimmbilaaGreatDoorRows
import GoSem.ClaimSeven
namespace Go.Proofs.YtjknlhiimmbilaaGreatDoor
namespace Rows

/-- THE TIED CARD OF 'moidorelaw48.ChainNew'. -/
def chainNewCard : Claim7 := { stood := { row := chainNewRow, standIns := [], harness := (true, "53652693e271e5b7bae4128ec67ecd5756db804380e1313a2ab85418f46cac2c"), looks := true }, kinds := [], alts := [], laidByText := true, laidKinds := [.data, .data, .data, .sentinel, .sentinel, .data], laidTests := true, laidLooks := .later }
def ChainNewCardSaid : Prop := Claim7.holds Tryz.pinned (.plain (OpenSpec.ofChange chainNewSpec)) chainNewCard

/-- THE TIED CARD OF 'moidorelaw48.ChainReplay'. -/
def chainReplayCard : Claim7 := { stood := { row := chainReplayRow, standIns := [], harness := (true, "53652693e271e5b7bae4128ec67ecd5756db804380e1313a2ab85418f46cac2c"), looks := true }, kinds := [], alts := [], laidByText := true, laidKinds := [.data, .data, .data, .sentinel, .sentinel, .data], laidTests := true, laidLooks := .later }
def ChainReplayCardSaid : Prop := Claim7.holds Tryz.pinned (.plain (OpenSpec.ofChange chainReplaySpec)) chainReplayCard

/-- THE SECOND FORM's CARD OF 'moidorelaw48.ChainNew'. -/
def chainNewUptoCard : Claim7 := { stood := { row := chainNewUptoRow, standIns := [], harness := (true, "53652693e271e5b7bae4128ec67ecd5756db804380e1313a2ab85418f46cac2c"), looks := true }, kinds := [], alts := [], laidByText := true, laidKinds := [.data, .data, .data, .sentinel, .sentinel, .data], laidTests := true, laidLooks := .later }
def ChainNewUptoCardSaid : Prop := Claim7.holds Tryz.pinned (.plain (OpenSpec.upto chainNewSpec)) chainNewUptoCard

/-- THE SECOND FORM's CARD OF 'moidorelaw48.ChainReplay'. -/
def chainReplayUptoCard : Claim7 := { stood := { row := chainReplayUptoRow, standIns := [], harness := (true, "53652693e271e5b7bae4128ec67ecd5756db804380e1313a2ab85418f46cac2c"), looks := true }, kinds := [], alts := [], laidByText := true, laidKinds := [.data, .data, .data, .sentinel, .sentinel, .data], laidTests := true, laidLooks := .later }
def ChainReplayUptoCardSaid : Prop := Claim7.holds Tryz.pinned (.plain (OpenSpec.upto chainReplaySpec)) chainReplayUptoCard
end Rows
end Go.Proofs.YtjknlhiimmbilaaGreatDoor
