/-
  DERIVED. GIVEN WITH THE SEED: THE CARDS: each row of YtcnhicijimiegaaGreatDoorRows.lean that lists a variable, with what it lists TIED to the program's text (the seventh form; the later family's looks); each row that meets fmt, with fmt's text TOLD by the authors' own Lean function (tested against real Go, not proved from fmt's source: count such statements apart). THE CARD IS WHAT COUNTS. Prove the row's statement (the work); the ties are given (YtcnhicijimiegaaGreatDoorTie.lean); close each card by the builder's one call (the guide's Derived/Test/ToyasCard.lean, 'card_holds'). Laid BY PROGRAM, IN A SANDBOX (cutbox-door.mjs). By AI agents, Wed Nov 11 2026. No macro, syntax, notation, axiom, sorry.
-/
import Derived.Test.YtcnhicijimiegaaGreatDoorRows
import GoSem.ClaimSeven
namespace Go.Proofs.YtcnhicijimiegaaGreatDoor
namespace Rows

/-- THE TIED CARD OF 'moidorelaw48.ChainOrder'. -/
def chainOrderCard : Claim7 := { stood := { row := chainOrderRow, standIns := [], harness := (true, "01c4761e051eba6692ad2b12f00a62810dbad97ccbe70e295d5199b4d3153ea7"), looks := true }, kinds := [], alts := [], laidByText := true, laidKinds := [.data, .data, .data, .sentinel, .sentinel, .data], laidTests := true, laidLooks := .later }
def ChainOrderCardSaid : Prop := Claim7.holds Tryz.pinned (.plain (OpenSpec.ofChange chainOrderSpec)) chainOrderCard

/-- THE SECOND FORM's CARD OF 'moidorelaw48.ChainOrder'. -/
def chainOrderUptoCard : Claim7 := { stood := { row := chainOrderUptoRow, standIns := [], harness := (true, "01c4761e051eba6692ad2b12f00a62810dbad97ccbe70e295d5199b4d3153ea7"), looks := true }, kinds := [], alts := [], laidByText := true, laidKinds := [.data, .data, .data, .sentinel, .sentinel, .data], laidTests := true, laidLooks := .later }
def ChainOrderUptoCardSaid : Prop := Claim7.holds Tryz.pinned (.plain (OpenSpec.upto chainOrderSpec)) chainOrderUptoCard
end Rows
end Go.Proofs.YtcnhicijimiegaaGreatDoor
