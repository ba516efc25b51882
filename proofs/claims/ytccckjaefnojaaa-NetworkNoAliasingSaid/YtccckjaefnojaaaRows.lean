/-
  No cell of these rows narrows 'for every input' (looked for: loops, veiled, ifaces, maps, wideKeys, modest, calm, conditions, laid).
  DERIVED. THE GIVEN ROWS OF THIS SEAT. 7 by the template 'for every input the law returns true; each argument reads behind the call as it read before'; 0 by the template 'total and deterministic' (their statements: YtccckjaefnojaaaTotals.lean).
  GIVEN WITH THE SEED: the statements are not yours to turn. If you find one false, say at which input.
  Laid BY PROGRAM, IN A SANDBOX (cutbox-rows.mjs): the forced cells as the released guide's own fill.sh prints them over the translation 0f28991bf94bfa6b… (all of the seat's roots in one cut). By AI agents, Wed Nov 11 2026. No macro, syntax, notation, axiom, sorry.
-/
import Derived.Test.YtccckjaefnojaaaChecked
import GoSem.Claim
import GoSem.ClaimJoined
import GoSem.ClaimMapViews
import Derived.JoinedTies
import Derived.KernelRfl
namespace Go.Proofs.Ytccckjaefnojaaa
/- THE CELL 'sum', in the pinned program and in every row, IS THE sha256 OF THE DUMP (.gsa) THAT YtccckjaefnojaaaProg.lean LOADS. Nothing in Lean hashes anything: it is a label: what it is worth is what the hold of that sum in a sandbox is worth. -/
noncomputable def Try.pinned : Pinned := { name := "ytccckjaefnojaaa", sum := "0f28991bf94bfa6bc69ac47984339ee00a1ecd26e91de6af9d5e46125ee4420c", checked := Try.checked }
namespace Rows
def none {H : Type} : Left H := { results := [], args := [] }

/-- 'moidorelaw53.NetworkFull': WHATEVER THE INPUT: true; the input reads as it did. -/
def networkFullSpec : ChangeSpec := { name := "networkFull", fn := fun _ => fun
  | [d1, d2] => { results := [.lit (.bool true)], args := [d1, d2] }
  | _ => none }
def networkFullRow : OpenClaim := { program := "ytccckjaefnojaaa", sum := "0f28991bf94bfa6bc69ac47984339ee00a1ecd26e91de6af9d5e46125ee4420c", func := "moidore/moidorelaw53.NetworkFull", spec := "networkFull", unfollowed := true, recurses := true, apart := false }
def NetworkFullSaid : Prop := networkFullRow.holds Try.pinned (OpenSpec.ofChange networkFullSpec)

/-- ITS FALSE NEIGHBOUR: 'it returns false'. Refute it at one input. -/
def networkFullWrong : ChangeSpec := { name := "networkFull", fn := fun _ => fun
  | [d1, d2] => { results := [.lit (.bool false)], args := [d1, d2] }
  | _ => none }
def NetworkFullWrongFalsely : Prop := networkFullRow.holds Try.pinned (OpenSpec.ofChange networkFullWrong)

/-- 'moidorelaw53.NetworkSize': WHATEVER THE INPUT: true; the input reads as it did. -/
def networkSizeSpec : ChangeSpec := { name := "networkSize", fn := fun _ => fun
  | [d1, d2] => { results := [.lit (.bool true)], args := [d1, d2] }
  | _ => none }
def networkSizeRow : OpenClaim := { program := "ytccckjaefnojaaa", sum := "0f28991bf94bfa6bc69ac47984339ee00a1ecd26e91de6af9d5e46125ee4420c", func := "moidore/moidorelaw53.NetworkSize", spec := "networkSize", unfollowed := true, recurses := true, apart := false }
def NetworkSizeSaid : Prop := networkSizeRow.holds Try.pinned (OpenSpec.ofChange networkSizeSpec)

/-- ITS FALSE NEIGHBOUR: 'it returns false'. Refute it at one input. -/
def networkSizeWrong : ChangeSpec := { name := "networkSize", fn := fun _ => fun
  | [d1, d2] => { results := [.lit (.bool false)], args := [d1, d2] }
  | _ => none }
def NetworkSizeWrongFalsely : Prop := networkSizeRow.holds Try.pinned (OpenSpec.ofChange networkSizeWrong)

/-- 'moidorelaw53.NetworkMatchesList': WHATEVER THE INPUT: true; the input reads as it did. -/
def networkMatchesListSpec : ChangeSpec := { name := "networkMatchesList", fn := fun _ => fun
  | [d1, d2] => { results := [.lit (.bool true)], args := [d1, d2] }
  | _ => none }
def networkMatchesListRow : OpenClaim := { program := "ytccckjaefnojaaa", sum := "0f28991bf94bfa6bc69ac47984339ee00a1ecd26e91de6af9d5e46125ee4420c", func := "moidore/moidorelaw53.NetworkMatchesList", spec := "networkMatchesList", unfollowed := true, recurses := true, apart := false }
def NetworkMatchesListSaid : Prop := networkMatchesListRow.holds Try.pinned (OpenSpec.ofChange networkMatchesListSpec)

/-- ITS FALSE NEIGHBOUR: 'it returns false'. Refute it at one input. -/
def networkMatchesListWrong : ChangeSpec := { name := "networkMatchesList", fn := fun _ => fun
  | [d1, d2] => { results := [.lit (.bool false)], args := [d1, d2] }
  | _ => none }
def NetworkMatchesListWrongFalsely : Prop := networkMatchesListRow.holds Try.pinned (OpenSpec.ofChange networkMatchesListWrong)

/-- 'moidorelaw53.NetworkSteps': WHATEVER THE INPUT: true; the input reads as it did. -/
def networkStepsSpec : ChangeSpec := { name := "networkSteps", fn := fun _ => fun
  | [d1, d2] => { results := [.lit (.bool true)], args := [d1, d2] }
  | _ => none }
def networkStepsRow : OpenClaim := { program := "ytccckjaefnojaaa", sum := "0f28991bf94bfa6bc69ac47984339ee00a1ecd26e91de6af9d5e46125ee4420c", func := "moidore/moidorelaw53.NetworkSteps", spec := "networkSteps", unfollowed := true, recurses := true, apart := false }
def NetworkStepsSaid : Prop := networkStepsRow.holds Try.pinned (OpenSpec.ofChange networkStepsSpec)

/-- ITS FALSE NEIGHBOUR: 'it returns false'. Refute it at one input. -/
def networkStepsWrong : ChangeSpec := { name := "networkSteps", fn := fun _ => fun
  | [d1, d2] => { results := [.lit (.bool false)], args := [d1, d2] }
  | _ => none }
def NetworkStepsWrongFalsely : Prop := networkStepsRow.holds Try.pinned (OpenSpec.ofChange networkStepsWrong)

/-- 'moidorelaw53.NetworkTakesAll': WHATEVER THE INPUT: true; the input reads as it did. -/
def networkTakesAllSpec : ChangeSpec := { name := "networkTakesAll", fn := fun _ => fun
  | [d1, d2] => { results := [.lit (.bool true)], args := [d1, d2] }
  | _ => none }
def networkTakesAllRow : OpenClaim := { program := "ytccckjaefnojaaa", sum := "0f28991bf94bfa6bc69ac47984339ee00a1ecd26e91de6af9d5e46125ee4420c", func := "moidore/moidorelaw53.NetworkTakesAll", spec := "networkTakesAll", unfollowed := true, recurses := true, apart := false }
def NetworkTakesAllSaid : Prop := networkTakesAllRow.holds Try.pinned (OpenSpec.ofChange networkTakesAllSpec)

/-- ITS FALSE NEIGHBOUR: 'it returns false'. Refute it at one input. -/
def networkTakesAllWrong : ChangeSpec := { name := "networkTakesAll", fn := fun _ => fun
  | [d1, d2] => { results := [.lit (.bool false)], args := [d1, d2] }
  | _ => none }
def NetworkTakesAllWrongFalsely : Prop := networkTakesAllRow.holds Try.pinned (OpenSpec.ofChange networkTakesAllWrong)

/-- 'moidorelaw53.NetworkNothingNew': WHATEVER THE INPUT: true; the input reads as it did. -/
def networkNothingNewSpec : ChangeSpec := { name := "networkNothingNew", fn := fun _ => fun
  | [d1, d2, d3] => { results := [.lit (.bool true)], args := [d1, d2, d3] }
  | _ => none }
def networkNothingNewRow : OpenClaim := { program := "ytccckjaefnojaaa", sum := "0f28991bf94bfa6bc69ac47984339ee00a1ecd26e91de6af9d5e46125ee4420c", func := "moidore/moidorelaw53.NetworkNothingNew", spec := "networkNothingNew", unfollowed := true, recurses := true, apart := false }
def NetworkNothingNewSaid : Prop := networkNothingNewRow.holds Try.pinned (OpenSpec.ofChange networkNothingNewSpec)

/-- ITS FALSE NEIGHBOUR: 'it returns false'. Refute it at one input. -/
def networkNothingNewWrong : ChangeSpec := { name := "networkNothingNew", fn := fun _ => fun
  | [d1, d2, d3] => { results := [.lit (.bool false)], args := [d1, d2, d3] }
  | _ => none }
def NetworkNothingNewWrongFalsely : Prop := networkNothingNewRow.holds Try.pinned (OpenSpec.ofChange networkNothingNewWrong)

/-- 'moidorelaw53.NetworkNoAliasing': WHATEVER THE INPUT: true; the input reads as it did. -/
def networkNoAliasingSpec : ChangeSpec := { name := "networkNoAliasing", fn := fun _ => fun
  | [d1, d2, d3] => { results := [.lit (.bool true)], args := [d1, d2, d3] }
  | _ => none }
def networkNoAliasingRow : OpenClaim := { program := "ytccckjaefnojaaa", sum := "0f28991bf94bfa6bc69ac47984339ee00a1ecd26e91de6af9d5e46125ee4420c", func := "moidore/moidorelaw53.NetworkNoAliasing", spec := "networkNoAliasing", unfollowed := true, recurses := true, apart := false }
def NetworkNoAliasingSaid : Prop := networkNoAliasingRow.holds Try.pinned (OpenSpec.ofChange networkNoAliasingSpec)

/-- ITS FALSE NEIGHBOUR: 'it returns false'. Refute it at one input. -/
def networkNoAliasingWrong : ChangeSpec := { name := "networkNoAliasing", fn := fun _ => fun
  | [d1, d2, d3] => { results := [.lit (.bool false)], args := [d1, d2, d3] }
  | _ => none }
def NetworkNoAliasingWrongFalsely : Prop := networkNoAliasingRow.holds Try.pinned (OpenSpec.ofChange networkNoAliasingWrong)

/- THE SECOND FORM. 'bulk': how many values and letters a reading holds, each counted each time it is reached (what is shared counts as often as it is met; a slice's spare places count too). A statement '..UptoSaid' is the law's where the arguments, and the package variables that the reading takes, are together of bulk at most 1048576: NARROWER than '..Said'. Prove '..Said' where nothing that the law and all that it calls make is longer than what came in: it says more and counts as full. Else prove '..UptoSaid'. A law counts once. -/
mutual
def uptoBulk {H : Type} : DataW H → Nat
  | .lit (.string bytes) => bytes.length + 1
  | .lit _ => 1
  | .nil => 1
  | .ptr d => uptoBulk d + 1
  | .slice elems spare => uptoBulkAll elems + uptoBulkAll spare + 1
  | .agg parts => uptoBulkAll parts + 1
  | .iface _ d => uptoBulk d + 1
  | .map entries => uptoBulkEntries entries + 1
  | .held _ => 1
def uptoBulkAll {H : Type} : List (DataW H) → Nat
  | [] => 0
  | d :: r => uptoBulk d + uptoBulkAll r
def uptoBulkEntries {H : Type} : List (Lit × DataW H) → Nat
  | [] => 0
  | x :: r => uptoBulkEntry x + uptoBulkEntries r
def uptoBulkEntry {H : Type} : Lit × DataW H → Nat
  | (.string bytes, d) => bytes.length + uptoBulk d + 1
  | (_, d) => uptoBulk d + 1
 end
def uptoSmall : (H : Type) → List (DataW H) → Bool := fun _ ds => decide (uptoBulkAll ds ≤ 1048576)
def OpenSpec.upto (s : _root_.Go.ChangeSpec) : _root_.Go.OpenSpec := { _root_.Go.OpenSpec.ofChange s with cond := some uptoSmall }

/-- 'moidorelaw53.NetworkFull', WHERE WHAT IT READS IS OF BULK AT MOST 1048576: true; the input reads as it did. -/
def networkFullUptoRow : OpenClaim := { program := "ytccckjaefnojaaa", sum := "0f28991bf94bfa6bc69ac47984339ee00a1ecd26e91de6af9d5e46125ee4420c", func := "moidore/moidorelaw53.NetworkFull", spec := "networkFull", unfollowed := true, recurses := true, apart := false, narrowed := true }
def NetworkFullUptoSaid : Prop := networkFullUptoRow.holds Try.pinned (OpenSpec.upto networkFullSpec)

/-- 'moidorelaw53.NetworkSize', WHERE WHAT IT READS IS OF BULK AT MOST 1048576: true; the input reads as it did. -/
def networkSizeUptoRow : OpenClaim := { program := "ytccckjaefnojaaa", sum := "0f28991bf94bfa6bc69ac47984339ee00a1ecd26e91de6af9d5e46125ee4420c", func := "moidore/moidorelaw53.NetworkSize", spec := "networkSize", unfollowed := true, recurses := true, apart := false, narrowed := true }
def NetworkSizeUptoSaid : Prop := networkSizeUptoRow.holds Try.pinned (OpenSpec.upto networkSizeSpec)

/-- 'moidorelaw53.NetworkMatchesList', WHERE WHAT IT READS IS OF BULK AT MOST 1048576: true; the input reads as it did. -/
def networkMatchesListUptoRow : OpenClaim := { program := "ytccckjaefnojaaa", sum := "0f28991bf94bfa6bc69ac47984339ee00a1ecd26e91de6af9d5e46125ee4420c", func := "moidore/moidorelaw53.NetworkMatchesList", spec := "networkMatchesList", unfollowed := true, recurses := true, apart := false, narrowed := true }
def NetworkMatchesListUptoSaid : Prop := networkMatchesListUptoRow.holds Try.pinned (OpenSpec.upto networkMatchesListSpec)

/-- 'moidorelaw53.NetworkSteps', WHERE WHAT IT READS IS OF BULK AT MOST 1048576: true; the input reads as it did. -/
def networkStepsUptoRow : OpenClaim := { program := "ytccckjaefnojaaa", sum := "0f28991bf94bfa6bc69ac47984339ee00a1ecd26e91de6af9d5e46125ee4420c", func := "moidore/moidorelaw53.NetworkSteps", spec := "networkSteps", unfollowed := true, recurses := true, apart := false, narrowed := true }
def NetworkStepsUptoSaid : Prop := networkStepsUptoRow.holds Try.pinned (OpenSpec.upto networkStepsSpec)

/-- 'moidorelaw53.NetworkTakesAll', WHERE WHAT IT READS IS OF BULK AT MOST 1048576: true; the input reads as it did. -/
def networkTakesAllUptoRow : OpenClaim := { program := "ytccckjaefnojaaa", sum := "0f28991bf94bfa6bc69ac47984339ee00a1ecd26e91de6af9d5e46125ee4420c", func := "moidore/moidorelaw53.NetworkTakesAll", spec := "networkTakesAll", unfollowed := true, recurses := true, apart := false, narrowed := true }
def NetworkTakesAllUptoSaid : Prop := networkTakesAllUptoRow.holds Try.pinned (OpenSpec.upto networkTakesAllSpec)

/-- 'moidorelaw53.NetworkNothingNew', WHERE WHAT IT READS IS OF BULK AT MOST 1048576: true; the input reads as it did. -/
def networkNothingNewUptoRow : OpenClaim := { program := "ytccckjaefnojaaa", sum := "0f28991bf94bfa6bc69ac47984339ee00a1ecd26e91de6af9d5e46125ee4420c", func := "moidore/moidorelaw53.NetworkNothingNew", spec := "networkNothingNew", unfollowed := true, recurses := true, apart := false, narrowed := true }
def NetworkNothingNewUptoSaid : Prop := networkNothingNewUptoRow.holds Try.pinned (OpenSpec.upto networkNothingNewSpec)

/-- 'moidorelaw53.NetworkNoAliasing', WHERE WHAT IT READS IS OF BULK AT MOST 1048576: true; the input reads as it did. -/
def networkNoAliasingUptoRow : OpenClaim := { program := "ytccckjaefnojaaa", sum := "0f28991bf94bfa6bc69ac47984339ee00a1ecd26e91de6af9d5e46125ee4420c", func := "moidore/moidorelaw53.NetworkNoAliasing", spec := "networkNoAliasing", unfollowed := true, recurses := true, apart := false, narrowed := true }
def NetworkNoAliasingUptoSaid : Prop := networkNoAliasingUptoRow.holds Try.pinned (OpenSpec.upto networkNoAliasingSpec)

end Rows
end Go.Proofs.Ytccckjaefnojaaa
