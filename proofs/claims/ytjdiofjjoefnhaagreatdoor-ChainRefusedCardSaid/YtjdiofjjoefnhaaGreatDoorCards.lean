/-
  DERIVED. GIVEN WITH THE SEED: THE CARDS: each row of YtjdiofjjoefnhaaGreatDoorRows.lean that lists a variable, with what it lists TIED to the program's text (the seventh form; the later family's looks); each row that meets fmt, with fmt's text TOLD by the authors' own Lean function (tested against real Go, not proved from fmt's source: count such statements apart). THE CARD IS WHAT COUNTS. Prove the row's statement (the work); the ties are given (YtjdiofjjoefnhaaGreatDoorTie.lean); close each card by the builder's one call (the guide's Derived/Test/ToyasCard.lean, 'card_holds'). Laid BY PROGRAM, IN A SANDBOX (cutbox-door.mjs). By AI agents, Wed Nov 11 2026. No macro, syntax, notation, axiom, sorry.
-/
import Derived.Test.YtjdiofjjoefnhaaGreatDoorRows
import GoSem.ClaimSeven
namespace Go.Proofs.YtjdiofjjoefnhaaGreatDoor
namespace Rows

/-- THE TIED CARD OF 'moidorelaw48.ChainState'. -/
def chainStateCard : Claim7 := { stood := { row := chainStateRow, standIns := [], harness := (true, "27f94bc0d52ee133932c0d166a459333be6073b4033ad86ebc6dcca02fbb44e0"), looks := true }, kinds := [], alts := [], laidByText := true, laidKinds := [.data, .data, .data, .sentinel, .sentinel, .data], laidTests := true, laidLooks := .later }
def ChainStateCardSaid : Prop := Claim7.holds Tryz.pinned (.plain (OpenSpec.ofChange chainStateSpec)) chainStateCard

/-- THE TIED CARD OF 'moidorelaw48.ChainRefused'. -/
def chainRefusedCard : Claim7 := { stood := { row := chainRefusedRow, standIns := [], harness := (true, "27f94bc0d52ee133932c0d166a459333be6073b4033ad86ebc6dcca02fbb44e0"), looks := true }, kinds := [], alts := [], laidByText := true, laidKinds := [.data, .data, .data, .sentinel, .sentinel, .data], laidTests := true, laidLooks := .later }
def ChainRefusedCardSaid : Prop := Claim7.holds Tryz.pinned (.plain (OpenSpec.ofChange chainRefusedSpec)) chainRefusedCard

/-- THE SECOND FORM's CARD OF 'moidorelaw48.ChainState'. -/
def chainStateUptoCard : Claim7 := { stood := { row := chainStateUptoRow, standIns := [], harness := (true, "27f94bc0d52ee133932c0d166a459333be6073b4033ad86ebc6dcca02fbb44e0"), looks := true }, kinds := [], alts := [], laidByText := true, laidKinds := [.data, .data, .data, .sentinel, .sentinel, .data], laidTests := true, laidLooks := .later }
def ChainStateUptoCardSaid : Prop := Claim7.holds Tryz.pinned (.plain (OpenSpec.upto chainStateSpec)) chainStateUptoCard

/-- THE SECOND FORM's CARD OF 'moidorelaw48.ChainRefused'. -/
def chainRefusedUptoCard : Claim7 := { stood := { row := chainRefusedUptoRow, standIns := [], harness := (true, "27f94bc0d52ee133932c0d166a459333be6073b4033ad86ebc6dcca02fbb44e0"), looks := true }, kinds := [], alts := [], laidByText := true, laidKinds := [.data, .data, .data, .sentinel, .sentinel, .data], laidTests := true, laidLooks := .later }
def ChainRefusedUptoCardSaid : Prop := Claim7.holds Tryz.pinned (.plain (OpenSpec.upto chainRefusedSpec)) chainRefusedUptoCard
end Rows
end Go.Proofs.YtjdiofjjoefnhaaGreatDoor
