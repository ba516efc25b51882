/- Opening a message that comes by value. -/
import Derived.Test.YtccckjaefnojaaaU
import Derived.Test.YtccckjaefnojaaaX
namespace Go.Proofs.Ytccckjaefnojaaa
open Go.ChangeShapes Go.WideShapes Go.ChangeAt Go.RowKit
section
variable {H : Type} {enc : TypeId × Value → H} {W : World}
theorem open_msg {rc : Reach} {b0 : Nat} {v : Value} {d : DataW H} {ps : List MemPlace}
    (hv : Value.okWide Try.prog W rc b0 24 v) (h : DataW.Trod enc Try.prog W 0 (fun _ => true) true 24 v d ps) :
    ∃ (m : Msg) (va : Option Addr) (vc : Nat), v = .agg #[.int .i64 m.kind, .int .i64 m.frm, .int .i64 m.to, .slice va m.bytes.length vc] ∧ msgR.rel (fun k => k < W.heap.size) W (cellsOf m (.slice va m.bytes.length vc)) m := by
  obtain ⟨cs, rfl, -⟩ := okWide_struct Try.underlying24 hv
  obtain ⟨fuel, hf⟩ := h
  obtain ⟨m, hm⟩ := reads_msg fuel _ _ hf
  obtain ⟨u, hcs, -, -, -, hby⟩ := msgR.inv hm
  obtain ⟨va, vc, rfl, -, -⟩ := sliceR.form hby
  rw [hcs] at hm
  refine ⟨m, va, vc, ?_, hm⟩
  obtain ⟨cs⟩ := cs
  simp only [Value.cells] at hcs
  rw [show cs = cellsOf m (.slice va m.bytes.length vc) from hcs]
  rfl
end
end Go.Proofs.Ytccckjaefnojaaa
