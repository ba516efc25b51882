/- Bytes as a string. -/
import Derived.Test.YtphacfkcifpobaaGreatDoorM02
import Derived.Test.YtphacfkcifpobaaGreatDoorM04
import Derived.Laws.BytesArg
import Derived.Lib.ConvBytes
set_option maxRecDepth 100000
namespace Go.Proofs.YtphacfkcifpobaaGreatDoor
open Go.ChangeShapes Go.WideShapes Go.ChangeAt Go.RowKit
theorem conv_str {S : Nat → Prop} {w : World} {a : Option Addr} {len cap : Nat} {xs : List Int} (h : bytesR.rel S w [.slice a len cap] xs) : (convert 49 9 (.slice a len cap)).run Tryz.prog w = .ok (.string (strOfNums xs)) w := by
 obtain ⟨rfl, -⟩ := sliceR.lens h
 cases xs with
 | nil =>
   cases a with
   | none => exact run_convert_bytes_nil w 49 5 Tryz.underlying49 Tryz.underlying5 _ _ 9 Tryz.underlying9
   | some ad =>
     rw [run_convert_bytes_string w 49 9 5 _ _ cap Tryz.underlying49 Tryz.underlying5 Tryz.underlying9, run_bytesToString w _ _ cap [] (by simp [loadCells, loadCellsFrom])]
     rfl
 | cons x xs =>
   obtain ⟨b, off, rfl, -⟩ := bytes_at h 0 (by simp)
   refine run_convert_bytes_arg w 49 5 Tryz.underlying49 Tryz.underlying5 b off _ cap (x :: xs) rfl (fun i hi => ?_) 9 Tryz.underlying9
   obtain ⟨b', off', h1, -, -, -, -, h2⟩ := bytes_at h i hi
   simp only [Option.some.injEq, Addr.mk.injEq] at h1
   obtain ⟨rfl, rfl, -⟩ := h1
   rw [h2, List.getD_eq_getElem?_getD, List.getElem?_eq_getElem hi]; rfl
theorem str_self (s : ByteArray) : (s.toList == s.toList) = true := beq_self_eq_true _
end Go.Proofs.YtphacfkcifpobaaGreatDoor
