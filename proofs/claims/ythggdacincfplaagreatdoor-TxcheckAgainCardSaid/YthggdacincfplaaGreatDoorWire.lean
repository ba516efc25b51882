/- The writing functions of the wire. -/
import Derived.Test.YthggdacincfplaaGreatDoorTx
import Derived.Test.YthggdacincfplaaGreatDoorKitP
import Derived.Laws.CopyOwn
namespace Go.Proofs.YthggdacincfplaaGreatDoor
open Go.ChangeShapes Go.WideShapes Go.ChangeAt Go.RowKit

/-- The lowest bytes of a number. -/
def digs : Nat → Int → List Int
  | 0, _ => []
  | k + 1, n => n % 256 :: digs k (n / 256)
theorem digs_len : ∀ k n, (digs k n).length = k
  | 0, _ => rfl
  | k + 1, n => by simp [digs, digs_len k]
abbrev u8R : Rep Int := intR .u8
theorem Tryz.etyBytes : ElemTy Tryz.prog 34 5 1 1 := ElemTy.of Tryz.underlying34 (z := .int .u8 0) (by kernel_rfl) rfl (by omega)
theorem Tryz.etyNums : ElemTy Tryz.prog 32 24 1 8 := ElemTy.of Tryz.underlying32 (z := .int .u64 0) (by kernel_rfl) rfl (by omega)
/-- A slice was returned that owns its row; memory below B is as it was in w0. -/
def GrewTo (B : Nat) (w0 : World) (ys : List Int) (e : Ending) (w' : World) : Prop :=
  ∃ v', e = .returned v' ∧ Own u8R B 5 (fun x => False ∨ B ≤ x) w' v' ys ∧ Below B w0 w'

set_option maxRecDepth 100000 in
set_option maxHeartbeats 1000000 in
theorem appendDigits_any (w0 w : World) (B : Nat) (hb : Below B w0 w) (hB0 : B ≤ w0.heap.size) (v : Value) (xs : List Int) (ho : Own u8R B 5 (fun x => False ∨ B ≤ x) w v xs) (n : Int) (n0 : 0 ≤ n) (n1 : n < 18446744073709551616) (size : Nat) (hs : size ≤ 8)
    (hl : xs.length ≤ 1000000000) : Calls Tryz.prog 166 #[v, .int .u64 n, .int .i64 size] w (GrewTo B w0 (xs ++ digs size n)) := by
  go_enter Tryz.func166, Tryz.ntmps166
  go_wp2_with fail
  go_loopw [0, 1, 8] (fun vb vn vi wr => ∃ (k : Nat) (m : Int) (ys : List Int), k ≤ size ∧ vi = .int .i64 k ∧ vn = .int .u64 m ∧ 0 ≤ m ∧ m < 18446744073709551616 ∧ ys.length = xs.length + k ∧ Hid (ys ++ digs (size - k) m = xs ++ digs size n) ∧
      Own u8R B 5 (fun x => False ∨ B ≤ x) wr vb ys ∧ Below B w0 wr ∧ B ≤ wr.heap.size) (fun _ _ vi _ => size - (intOf vi).toNat)
  case atStart => exact ⟨0, n, xs, Nat.zero_le _, rfl, rfl, n0, n1, rfl, rfl, ho, hb, Nat.le_trans hB0 hb.size⟩
  case round =>
    obtain ⟨k, m, ys, hk, rfl, rfl, m0, m1, hyl, hinv, hor, hbr, hBr⟩ := hrel
    have HYL := Lib.hid hyl
    clear hyl
    by_cases hlt : k < size
    · have HI : Hid ((ys ++ [m % 256]) ++ digs (size - (k + 1)) (m / 256) = xs ++ digs size n) := by
        show _ = _
        rw [← hinv.out, List.append_assoc, show size - k = (size - (k + 1)) + 1 by omega]
        rfl
      have hwf : (Lit.int .u8 (m % 256)).wf = true := by
        simp [Lit.wf, IntKind.min, IntKind.max, IntKind.signed, IntKind.bits]; omega
      have hyR : u8R.rel (fun _ => False) wr [.int .u8 (m % 256)] (m % 256) := ⟨rfl, hwf⟩
      have HO := Lib.hid hor
      have HY := Lib.hid hyR
      have e2 : 0 ≤ m / 256 := by omega
      have e3 : m / 256 < 18446744073709551616 := by omega
      clear hor hyR hwf
      go_wp2_with (at_builtin; refine wpList_push (r := u8R) (wr := wr) (es := [.int .u8 (m % 256)]) (v := u0) (w0 := w0) (B := B) rfl _ _ rfl Tryz.etyBytes rfl rfl hbr hBr HO.out HY.out (fun x hx => hx.elim) (by unfold maxLen; have := HYL.out; omega) (by have := HYL.out; omega) ?_)
      intro v2 w2 ho2 hb2
      have HZ := Lib.hid (Own.mono ho2 (F' := fun x => False ∨ B ≤ x) fun x _ h => by first | exact h | exact .inr h)
      have hB2 : B ≤ w2.heap.size := Nat.le_trans hB0 hb2.size
      clear ho2
      go_wp2_with fail
      go_roundw
      case rel => exact ⟨k + 1, m / 256, ys ++ [m % 256], by omega, by go_num, rfl, e2, e3, by rw [List.length_append, HYL.out]; simp; omega, HI, HZ.out, hb2, hB2⟩
      case measure => simp [intOf]; omega
    · obtain rfl : k = size := by omega
      have HF : Hid (ys = xs ++ digs k n) := by
        show _ = _
        rw [← hinv.out, Nat.sub_self]; simp [digs]
      go_wp2_with fail
      go_ret
      exact ⟨_, rfl, by rw [← HF.out]; exact hor, hbr⟩
end Go.Proofs.YthggdacincfplaaGreatDoor
