/- No function of the program starts a goroutine. -/
import Derived.Test.YtdjcdejapkkcmaaGreatDoorRows
import GoSem.ClaimSeven
import Derived.KernelRfl
namespace Go.Proofs.YtdjcdejapkkcmaaGreatDoor
open Go

theorem goes_none {P : Program} (h : P.funcs.toList.all (fun fn => !fn.goes) = true) (f : FuncId) : P.goes f = false := by
  have hall : ∀ fn ∈ P.funcs.toList, fn.goes = false := fun fn hf => by simpa using List.all_eq_true.1 h fn hf
  have h1 : ∀ g : Nat, (P.funcs[g]?).any Func.goes = false := fun g => by
    rcases hg : P.funcs[g]? with _ | fn
    · rfl
    · have : fn ∈ P.funcs.toList := Array.mem_toList_iff.2 (Array.mem_of_getElem? hg)
      show fn.goes = false
      exact hall fn this
  have h2 : P.funcs.any Func.goes = false := by
    rw [← Array.any_toList, List.any_eq_false]
    intro fn hf
    simp [hall fn hf]
  unfold Program.goes
  rw [h2, Bool.and_false, Bool.or_false, List.any_eq_false]
  intro g _
  simp [h1 g]
set_option maxRecDepth 100000 in
theorem nobody_goes : Tryz.prog.funcs.toList.all (fun fn => !fn.goes) = true := by kernel_rfl
theorem goesBy_of {P : Program} (h : ∀ f, P.goes f = false) (c : OpenClaim) (hs : c.start = .entering) : c.goesBy P = false := by
  unfold OpenClaim.goesBy Program.goesAt Program.goesFrom
  rw [hs]
  cases P.funcNamed c.func with
  | none => rfl
  | some f => show (P.goes f || false) = false; rw [h f]; rfl
theorem goesBy_none (c : OpenClaim) (hs : c.start = .entering) : c.goesBy Tryz.prog = false := goesBy_of (fun f => goes_none nobody_goes f) c hs
end Go.Proofs.YtdjcdejapkkcmaaGreatDoor
