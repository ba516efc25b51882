/- Closed facts of ScriptNew's row that look at all functions that it reaches: the search with a number as the set of what is seen. -/
import Derived.Test.YtphacfkcifpobaaGreatDoorRows
import Derived.JoinedOf
import Derived.KernelRfl
set_option maxRecDepth 100000
namespace Go.Proofs.YtphacfkcifpobaaGreatDoor
open Go
/-- The functions that a function leads to. -/
def leadV (P : Program) (f : FuncId) : List FuncId := (P.funcs[f]?).elim [] P.leadsTo
/-- The search, some steps of it. -/
def stepF (P : Program) : Nat → List FuncId → List FuncId → Nat → List FuncId × List FuncId
  | 0, todo, seen, _ => (todo, seen)
  | _ + 1, [], seen, _ => ([], seen)
  | n + 1, f :: todo, seen, m => match m.testBit f with
    | true => stepF P n todo seen m
    | false => stepF P n (leadV P f ++ todo) (f :: seen) (m ||| 2 ^ f)
theorem stepF_via (P : Program) : ∀ (k n : Nat) (todo seen : List FuncId) (m : Nat), (∀ g, m.testBit g = seen.contains g) →
    P.closureVia (k + n) todo seen = P.closureVia n (stepF P k todo seen m).1 (stepF P k todo seen m).2
  | 0, n, todo, seen, m, _ => by rw [Nat.zero_add]; rfl
  | k + 1, n, [], seen, m, _ => by
    rw [show k + 1 + n = (k + n) + 1 by omega]
    show P.closureVia (k + n + 1) [] seen = P.closureVia n [] seen
    cases n <;> rfl
  | k + 1, n, f :: todo, seen, m, h => by
    rw [show k + 1 + n = (k + n) + 1 by omega]
    show (if seen.contains f then P.closureVia (k + n) todo seen else P.closureVia (k + n) (leadV P f ++ todo) (f :: seen)) = _
    unfold stepF
    have hf := h f
    cases hb : m.testBit f with
    | true =>
      rw [hb] at hf
      rw [if_pos hf.symm]
      exact stepF_via P k n todo seen m h
    | false =>
      rw [hb] at hf
      rw [if_neg (by rw [← hf]; decide)]
      refine stepF_via P k n _ _ _ fun g => ?_
      rw [Nat.testBit_or, h g, Nat.testBit_two_pow, List.contains_cons]
      by_cases hg : f = g
      · subst hg; simp
      · have h1 : decide (f = g) = false := decide_eq_false hg
        have h2 : (g == f) = false := beq_eq_false_iff_ne.2 fun e => hg e.symm
        rw [h1, h2, Bool.or_false, Bool.false_or]
theorem closure_of {P : Program} {f : FuncId} (k : Nat) (hk : k.ble (1 + (P.funcs.toList.map fun g => (P.leadsTo g).length + 1).sum) = true) (h : (stepF P k [f] [] 0).1.isEmpty = true) : P.closure f = (stepF P k [f] [] 0).2.reverse := by
  unfold Program.closure
  have hk' := Nat.le_of_ble_eq_true hk
  obtain ⟨m, hm⟩ : ∃ m, 1 + (P.funcs.toList.map fun g => (P.leadsTo g).length + 1).sum = k + m := ⟨_, (Nat.add_sub_of_le hk').symm⟩
  rw [hm, stepF_via P k m [f] [] 0 (fun g => by rw [Nat.zero_testBit]; rfl), List.isEmpty_iff.1 h]
  cases m <;> rfl
theorem unf_of {P : Program} {f : FuncId} {L : List FuncId} (h : P.closure f = L) (h2 : (L.any fun g => (P.funcs[g]?).any fun fn => match fn.body with | some c => c.unfollowed | none => entryCalls fn) = true) : P.unfollowed f = true := by
  unfold Program.unfollowed
  rw [h]
  exact h2
theorem inp_of {P : Program} {f : FuncId} {L : List FuncId} {l : List String} (h : P.closure f = L) (h2 : (l == L.filterMap fun g => (P.funcs[g]?).bind fun fn => if fn.ours || fn.body.isNone || fn.name == "runtime.NumGoroutine" then some fn.name else none) = true) : (l == P.inPlace f) = true := by
  unfold Program.inPlace
  rw [h]
  exact h2
theorem nam_of {P : Program} {f : FuncId} {L : List FuncId} {l : List String} (h : P.closure f = L) (h2 : (l == (((L.flatMap fun g => ((P.funcs[g]?).bind (·.body)).elim [] Code.globalsNamed).eraseDups).filterMap (fun g => (P.globals[g]?).map (·.name)) ++
    L.filterMap fun g => (P.funcs[g]?).bind fun fn => if fn.body.isNone then entryReads.lookup fn.name else none).eraseDups) = true) : (l == P.varsNamed f) = true := by
  unfold Program.varsNamed
  rw [h]
  exact h2
theorem todo0 : (stepF Tryz.prog 2000 [3] [] 0).1.isEmpty = true := by kernel_rfl
theorem fuel0 : (2000 : Nat).ble (1 + (Tryz.prog.funcs.toList.map fun g => (Tryz.prog.leadsTo g).length + 1).sum) = true := by kernel_rfl
theorem clos : Tryz.prog.closure 3 = (stepF Tryz.prog 2000 [3] [] 0).2.reverse := closure_of 2000 fuel0 todo0
end Go.Proofs.YtphacfkcifpobaaGreatDoor
namespace Go.Proofs.YtphacfkcifpobaaGreatDoor.scriptNew
open Go
theorem fUnfollowed : Tryz.prog.unfollowed 3 = true := unf_of clos (by kernel_rfl)
theorem fRecurses : Tryz.prog.recurses 3 = true := by
  unfold Program.recurses; rw [fUnfollowed]; rfl
end Go.Proofs.YtphacfkcifpobaaGreatDoor.scriptNew
