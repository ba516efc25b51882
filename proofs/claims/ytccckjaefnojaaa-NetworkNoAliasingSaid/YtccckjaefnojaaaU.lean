/- Opening the arguments of the laws. -/
import Derived.Test.YtccckjaefnojaaaT
import Derived.Test.YtccckjaefnojaaaKitT
namespace Go.Proofs.Ytccckjaefnojaaa
open Go.ChangeShapes Go.WideShapes Go.ChangeAt Go.RowKit

theorem own : ownKnob Try.prog.godebug = none := by kernel_rfl
theorem laidOut : laidOutB Try.prog = true := by kernel_rfl
theorem Try.cells3 : Try.prog.cellsOf 3 = 1 := by kernel_rfl
theorem Try.cells5 : Try.prog.cellsOf 5 = 1 := by kernel_rfl
theorem Try.cells22 : Try.prog.cellsOf 22 = 1 := by kernel_rfl
theorem Try.cells24 : Try.prog.cellsOf 24 = 4 := by kernel_rfl
theorem Try.cells30 : Try.prog.cellsOf 30 = 1 := by kernel_rfl
theorem Try.cells48 : Try.prog.cellsOf 48 = 1 := by kernel_rfl
theorem Try.cells50 : Try.prog.cellsOf 50 = 4 := by kernel_rfl
section
variable {H : Type} {enc : TypeId × Value → H} {W : World}
theorem reads_bytes : Reads H enc Try.prog W bytesR 22 := (Reads.int Try.underlying5).slice Try.underlying22 Try.cells5 (Nat.lt_succ_self 0)
theorem reads_ints : Reads H enc Try.prog W intsR 48 := (Reads.int Try.underlying3).slice Try.underlying48 Try.cells3 (Nat.lt_succ_self 0)
theorem reads_msg : Reads H enc Try.prog W msgR 24 := by
  intro fuel cs x h
  obtain ⟨⟨a, b, c, d⟩, hr⟩ := Reads.four Try.underlying24 Try.cells24 ⟨rfl, rfl⟩ ⟨rfl, rfl⟩ ⟨rfl, rfl⟩ ⟨rfl, rfl⟩ Try.cells3 Try.cells3 Try.cells3 Try.cells22 (Reads.int Try.underlying3) (Reads.int Try.underlying3) (Reads.int Try.underlying3) reads_bytes fuel cs x h
  exact ⟨⟨a, b, c, d⟩, hr⟩
theorem reads_msgs : Reads H enc Try.prog W msgsR 30 := reads_msg.slice Try.underlying30 Try.cells24 (by rw [msgR.n]; omega)
theorem reads_op : Reads H enc Try.prog W opR 50 := by
  intro fuel cs x h
  obtain ⟨⟨a, b, c, d⟩, hr⟩ := Reads.four Try.underlying50 Try.cells50 ⟨rfl, rfl⟩ ⟨rfl, rfl⟩ ⟨rfl, rfl⟩ ⟨rfl, rfl⟩ Try.cells5 Try.cells30 Try.cells3 Try.cells48 (Reads.int Try.underlying5) reads_msgs (Reads.int Try.underlying3) reads_ints fuel cs x h
  exact ⟨⟨a, b, c, d⟩, hr⟩
theorem reads_ops : Reads H enc Try.prog W (sliceR opR) 38 := reads_op.slice Try.underlying38 Try.cells50 (by rw [opR.n]; omega)

/-- An argument that is a slice: its value, and what it reads as. -/
theorem open_rel_slice {α : Type} {r : Rep α} {t e : TypeId} {rc : Reach} {b0 : Nat} {v : Value} {d : DataW H} {ps : List MemPlace} (ht : Try.prog.underlying t = some (.slice e)) (hr : Reads H enc Try.prog W (sliceR r) t)
    (hv : Value.okWide Try.prog W rc b0 t v) (h : DataW.Trod enc Try.prog W 0 (fun _ => true) true t v d ps) : ∃ a cap xs, v = .slice a xs.length cap ∧ (sliceR r).rel (fun k => k < W.heap.size) W [.slice a xs.length cap] xs := by
  obtain ⟨a, len, cap, rfl⟩ := okWide_slice ht hv
  obtain ⟨fuel, hf⟩ := h
  obtain ⟨xs, hx⟩ := hr fuel _ _ hf
  have hx' : (sliceR r).rel (fun k => k < W.heap.size) W [.slice a len cap] xs := hx
  obtain ⟨rfl, -⟩ := sliceR.lens hx'
  exact ⟨a, cap, xs, rfl, hx'⟩
end
end Go.Proofs.Ytccckjaefnojaaa
