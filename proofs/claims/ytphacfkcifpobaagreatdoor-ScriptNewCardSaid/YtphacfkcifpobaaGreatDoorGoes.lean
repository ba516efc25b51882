/- No function of the program starts a goroutine. -/
import Derived.Test.YtphacfkcifpobaaGreatDoorRows
import GoSem.ClaimSeven
import Derived.KernelRfl
set_option maxRecDepth 100000
namespace Go.Proofs.YtphacfkcifpobaaGreatDoor
open Go
theorem goes_none {P : Program} (h : P.funcs.toList.all (fun fn => !fn.goes) = true) (f : FuncId) : P.goes f = false := by
 have hall : ∀ fn ∈ P.funcs.toList, fn.goes = false := fun fn hf => by simpa using List.all_eq_true.1 h fn hf
 have h1 : ∀ g : Nat, (P.funcs[g]?).any Func.goes = false := fun g => by
   rcases hg : P.funcs[g]? with _ | fn
   · rfl
   · have : fn ∈ P.funcs.toList := Array.mem_toList_iff.2 (Array.mem_of_getElem? hg)
     show fn.goes = false
     exact hall fn this
 have h2 : P.funcs.any Func.goes = false := by
   rw [← Array.any_toList, List.any_eq_false]
   intro fn hf
   simp [hall fn hf]
 unfold Program.goes; rw [h2, Bool.and_false, Bool.or_false, List.any_eq_false]
 intro g _
 simp [h1 g]
theorem nobody_goes : Tryz.prog.funcs.toList.all (fun fn => !fn.goes) = true := by kernel_rfl
theorem goesBy_of {P : Program} (h : ∀ f, P.goes f = false) (c : OpenClaim) (hs : c.start = .entering) : c.goesBy P = false := by
 unfold OpenClaim.goesBy Program.goesAt Program.goesFrom; rw [hs]
 cases P.funcNamed c.func with
 | none => rfl
 | some f => show (P.goes f || false) = false; rw [h f]; rfl
theorem goesBy_none (c : OpenClaim) (hs : c.start = .entering) : c.goesBy Tryz.prog = false := goesBy_of (fun f => goes_none nobody_goes f) c hs
theorem lo_of {P : Program} (k : Nat) (h1 : P.types.size.ble (4 * k) = true) (h2 : ((List.range' 0 k).all fun j => P.types.size.ble j || rowFine P j) = true) (h3 : ((List.range' k k).all fun j => P.types.size.ble j || rowFine P j) = true)
    (h4 : ((List.range' (2 * k) k).all fun j => P.types.size.ble j || rowFine P j) = true) (h5 : ((List.range' (3 * k) k).all fun j => P.types.size.ble j || rowFine P j) = true)
    (h6 : (P.globals.all fun g => decide (g.type < P.types.size)) = true) (h7 : (P.funcs.all fun f => f.params.all fun t => decide (t < P.types.size)) = true) : laidOutB P = true := by
  unfold laidOutB
  rw [Bool.and_eq_true, Bool.and_eq_true]
  refine ⟨⟨List.all_eq_true.2 fun j hj => ?_, h6⟩, h7⟩
  have hj' := List.mem_range.1 hj
  have hc := Nat.le_of_ble_eq_true h1
  have fin : (P.types.size.ble j || rowFine P j) = true → rowFine P j = true := fun h => by
    rw [Bool.or_eq_true] at h
    rcases h with h | h
    · have := Nat.le_of_ble_eq_true h; omega
    · exact h
  rcases Nat.lt_or_ge j k with q | q
  · exact fin (List.all_eq_true.1 h2 j (List.mem_range'_1.2 ⟨by omega, by omega⟩))
  rcases Nat.lt_or_ge j (2 * k) with q2 | q2
  · exact fin (List.all_eq_true.1 h3 j (List.mem_range'_1.2 ⟨by omega, by omega⟩))
  rcases Nat.lt_or_ge j (3 * k) with q3 | q3
  · exact fin (List.all_eq_true.1 h4 j (List.mem_range'_1.2 ⟨by omega, by omega⟩))
  · exact fin (List.all_eq_true.1 h5 j (List.mem_range'_1.2 ⟨by omega, by omega⟩))
theorem lo6 : (Tryz.prog.globals.all fun g => decide (g.type < Tryz.prog.types.size)) = true := by kernel_rfl
theorem lo7 : (Tryz.prog.funcs.all fun f => f.params.all fun t => decide (t < Tryz.prog.types.size)) = true := by kernel_rfl
theorem lo1 : Tryz.prog.types.size.ble (4 * 210) = true := by kernel_rfl
theorem lo2 : ((List.range' 0 210).all fun j => Tryz.prog.types.size.ble j || rowFine Tryz.prog j) = true := by kernel_rfl
theorem lo3 : ((List.range' 210 210).all fun j => Tryz.prog.types.size.ble j || rowFine Tryz.prog j) = true := by kernel_rfl
theorem lo4 : ((List.range' (2 * 210) 210).all fun j => Tryz.prog.types.size.ble j || rowFine Tryz.prog j) = true := by kernel_rfl
theorem lo5 : ((List.range' (3 * 210) 210).all fun j => Tryz.prog.types.size.ble j || rowFine Tryz.prog j) = true := by kernel_rfl
theorem laidOut : laidOutB Tryz.prog = true := lo_of 210 lo1 lo2 lo3 lo4 lo5 lo6 lo7
end Go.Proofs.YtphacfkcifpobaaGreatDoor
