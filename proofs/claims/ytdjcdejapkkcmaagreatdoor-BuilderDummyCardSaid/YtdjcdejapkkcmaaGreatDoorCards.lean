/-
  DERIVED. GIVEN WITH THE SEED: THE CARDS: each row of YtdjcdejapkkcmaaGreatDoorRows.lean that lists a variable, with what it lists TIED to the program's text (the seventh form; the later family's looks); each row that meets fmt, with fmt's text TOLD by the authors' own Lean function (tested against real Go, not proved from fmt's source: count such statements apart). THE CARD IS WHAT COUNTS. Prove the row's statement (the work); the ties are given (YtdjcdejapkkcmaaGreatDoorTie.lean); close each card by the builder's one call (the guide's Derived/Test/ToyasCard.lean, 'card_holds'). Laid BY PROGRAM, IN A SANDBOX (cutbox-door.mjs). By AI agents, Wed Nov 11 2026. No macro, syntax, notation, axiom, sorry.
-/
import Derived.Test.YtdjcdejapkkcmaaGreatDoorRows
import GoSem.ClaimSeven
namespace Go.Proofs.YtdjcdejapkkcmaaGreatDoor
namespace Rows

/-- THE TIED CARD OF 'moidorelaw43.BuilderHides'. -/
def builderHidesCard : Claim7 := { stood := { row := builderHidesRow, standIns := [], harness := (true, "7d5fb3be012930e035ffce84d9d71b6f400121b9d4d3c07a35d4c466f327d507"), looks := true }, kinds := [], alts := [], laidByText := true, laidKinds := [.data, .data, .data, .sentinel, .sentinel, .data], laidTests := true, laidLooks := .later }
def BuilderHidesCardSaid : Prop := Claim7.holds Tryz.pinned (.plain (OpenSpec.ofChange builderHidesSpec)) builderHidesCard

/-- THE TIED CARD OF 'moidorelaw43.BuilderDummy'. -/
def builderDummyCard : Claim7 := { stood := { row := builderDummyRow, standIns := [], harness := (true, "7d5fb3be012930e035ffce84d9d71b6f400121b9d4d3c07a35d4c466f327d507"), looks := true }, kinds := [], alts := [], laidByText := true, laidKinds := [.data, .data, .data, .sentinel, .sentinel, .data], laidTests := true, laidLooks := .later }
def BuilderDummyCardSaid : Prop := Claim7.holds Tryz.pinned (.plain (OpenSpec.ofChange builderDummySpec)) builderDummyCard

/-- THE SECOND FORM's CARD OF 'moidorelaw43.BuilderHides'. -/
def builderHidesUptoCard : Claim7 := { stood := { row := builderHidesUptoRow, standIns := [], harness := (true, "7d5fb3be012930e035ffce84d9d71b6f400121b9d4d3c07a35d4c466f327d507"), looks := true }, kinds := [], alts := [], laidByText := true, laidKinds := [.data, .data, .data, .sentinel, .sentinel, .data], laidTests := true, laidLooks := .later }
def BuilderHidesUptoCardSaid : Prop := Claim7.holds Tryz.pinned (.plain (OpenSpec.upto builderHidesSpec)) builderHidesUptoCard

/-- THE SECOND FORM's CARD OF 'moidorelaw43.BuilderDummy'. -/
def builderDummyUptoCard : Claim7 := { stood := { row := builderDummyUptoRow, standIns := [], harness := (true, "7d5fb3be012930e035ffce84d9d71b6f400121b9d4d3c07a35d4c466f327d507"), looks := true }, kinds := [], alts := [], laidByText := true, laidKinds := [.data, .data, .data, .sentinel, .sentinel, .data], laidTests := true, laidLooks := .later }
def BuilderDummyUptoCardSaid : Prop := Claim7.holds Tryz.pinned (.plain (OpenSpec.upto builderDummySpec)) builderDummyUptoCard
end Rows
end Go.Proofs.YtdjcdejapkkcmaaGreatDoor
