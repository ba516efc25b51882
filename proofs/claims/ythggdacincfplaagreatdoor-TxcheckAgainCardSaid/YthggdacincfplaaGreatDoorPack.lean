/- Bytes as elements, and their hash: some numbers, some hash. -/
import Derived.Test.YthggdacincfplaaGreatDoorSponge
import Derived.Test.YthggdacincfplaaGreatDoorWireB
import Derived.Laws.Bits64b
namespace Go.Proofs.YthggdacincfplaaGreatDoor
open Go.ChangeShapes Go.WideShapes Go.ChangeAt Go.RowKit

theorem or_in {a b : Int} (a0 : 0 ≤ a) (a1 : a < 18446744073709551616) (b0 : 0 ≤ b) (b1 : b < 18446744073709551616) : 0 ≤ bits BinOp.or IntKind.u64 a b ∧ bits BinOp.or IntKind.u64 a b < 18446744073709551616 := by
  obtain ⟨A, rfl⟩ := Int.eq_ofNat_of_zero_le a0
  obtain ⟨B, rfl⟩ := Int.eq_ofNat_of_zero_le b0
  have hA : A < 2 ^ 64 := by omega
  have hB : B < 2 ^ 64 := by omega
  rw [bits_or_u64_nat A B (by omega) (by omega)]
  have := Nat.or_lt_two_pow hA hB
  omega
theorem wrap_in (x : Int) : 0 ≤ IntKind.u64.wrap x ∧ IntKind.u64.wrap x < 18446744073709551616 := by rw [IntKind.wrap_u64]; omega
/-- Some list of words was returned, in new memory. -/
def SomeN (N : Nat) (w : World) (e : Ending) (w' : World) : Prop := ∃ (ys : List Int) (a : Option Addr) (cap : Nat), ys.length ≤ N ∧ e = .returned (.slice a ys.length cap) ∧ numsR.rel (fun _ => True) w' [.slice a ys.length cap] ys ∧ Below w.heap.size w w'

set_option maxRecDepth 100000 in
set_option maxHeartbeats 3000000 in
theorem pack_any (S : Nat → Prop) (w : World) (a : Option Addr) (cap : Nat) (xs : List Int) (h : bytesR.rel S w [.slice a xs.length cap] xs) (hx : xs.length ≤ 100000) :
    Calls Tryz.prog 103 #[.slice a xs.length cap] w (SomeN (xs.length + 2) w) := by
  have H := Lib.hid h
  have g1 := (sliceR.lens h).2
  unfold maxLen at g1
  clear h
  go_enter Tryz.func103, Tryz.ntmps103
  go_wp2_with (at_make; refine wpList_make_lc rfl _ _ rfl Tryz.etyNums (n := 1) (m := 1 + (xs.length + 6) / 7) rfl rfl ?_ ?_ ?_ ?_ ?_ ?_)
  · rfl
  · omega
  · omega
  · omega
  · unfold maxLen; omega
  intro cur hcur w1 hg1 hb1 hz1
  obtain ⟨c0, rest, rfl⟩ : ∃ c0 rest, cur = c0 :: rest := by
    cases cur with
    | nil => exfalso; simp at hcur; omega
    | cons c r => exact ⟨c, r, rfl⟩
  obtain ⟨x0, x1⟩ := box_cells hg1
  have hw : IntKind.u64.wrap (xs.length : Int) = xs.length := by rw [IntKind.wrap_u64]; omega
  have hg2 := box_set (i := 0) (v := .int .u64 (xs.length : Int)) hg1
  have hg3 : (w1.setCell ⟨w.heap.size, 0, none⟩ (.int .u64 (xs.length : Int))).heap[w.heap.size]? = some (.cells ((.int .u64 (xs.length : Int)) :: rest).toArray 24 (0, 0)) := by simpa using hg2
  have hown := own_ints (k := .u64) (base := w.heap.size) (xs := [(xs.length : Int)]) hg3 hcur (by simp) (by intro x hx'; simp at hx'; subst hx'; exact okU_of (by omega) (by omega)) (by simp) (by unfold maxLen; omega) (Nat.le_refl _)
  have hb2 : Below w.heap.size w (w1.setCell ⟨w.heap.size, 0, none⟩ (.int .u64 (xs.length : Int))) := hb1.setCell (Nat.le_refl _) _
  have HOWN := Lib.hid hown
  have HB2 := Lib.hid hb2
  clear hown hb2 hg2 hg3 hg1
  go_wp2_with fail
  generalize w1.setCell ⟨w.heap.size, 0, none⟩ (.int .u64 (xs.length : Int)) = w2 at *
  go_loopw [3, 4] (fun vr vs wr => ∃ (k : Nat) (ns : List Int), k ≤ xs.length + 7 ∧ vs = .int .i64 k ∧ ns.length ≤ k + 1 ∧ (k ≤ xs.length → ns.length ≤ k + 1) ∧ 7 * ns.length ≤ k + 7 ∧ Own u64R w.heap.size 24 (fun x => False ∨ w.heap.size ≤ x) wr vr ns ∧ Below w.heap.size w wr ∧ w.heap.size ≤ wr.heap.size) (fun _ vs _ => xs.length + 8 - (intOf vs).toNat)
  case atStart => exact ⟨0, [(xs.length : Int)], by omega, rfl, by simp, fun _ => by simp, by simp, by simpa using HOWN.out, HB2.out, HB2.out.size⟩
  case round =>
    obtain ⟨k, ns, hk, rfl, hn1, hn2, hn3, hor, hbr, hsz⟩ := hrel
    by_cases hlt : k < xs.length
    · have hpos : 0 < xs.length := by omega
      obtain ⟨b, off, rfl, -, -, -, -, -⟩ := bytes_at H.out 0 hpos
      by_cases h7 : k + 7 ≤ xs.length
      · have h7i : ¬ ((xs.length : Int) < (k : Int) + 7) := by omega
        have HOR := Lib.hid hor
        clear hor
        go_wp2_with fail
        have hMx : k + 7 ≤ xs.length := h7
        go_loop [6, 37] (fun vn vi => ∃ (j : Nat) (n : Int), j ≤ 7 ∧ vi = .int .i64 j ∧ vn = .int .u64 n ∧ 0 ≤ n ∧ n < 18446744073709551616) (fun _ vi => 7 - (intOf vi).toNat)
        case atStart => exact ⟨0, 0, Nat.zero_le _, rfl, rfl, by omega, by omega⟩
        case round =>
          obtain ⟨j, n, hj, rfl, rfl, n0, n1⟩ := hrel
          by_cases hjl : j < 7
          · obtain ⟨b', off', hbo, -, -, d0, d1, hc⟩ := bytes_at (bytesR.keepB H.out hbr) (k + j) (by omega)
            simp at hbo
            obtain ⟨rfl, rfl⟩ := hbo
            rw [← Nat.add_assoc] at hc
            generalize xs[k + j] = x at *
            have hin := or_in n0 n1 (wrap_in (x * 2 ^ (8 * j))).1 (wrap_in (x * 2 ^ (8 * j))).2
            have HIN := Lib.hid hin
            clear hin
            go_wp2_with fail
            go_round
            case rel => exact ⟨j + 1, _, by omega, by go_num, rfl, HIN.out.1, HIN.out.2⟩
            case measure => simp [intOf]; omega
          · obtain rfl : j = 7 := by omega
            have HY : Hid (u64R.rel (fun _ => False) wr [.int .u64 n] n) := ⟨rfl, okU_of n0 n1⟩
            go_wp2_with (at_builtin; refine wpList_push (r := u64R) (wr := wr) (es := [.int .u64 n]) (v := u3) (w0 := w) (B := w.heap.size) rfl _ _ rfl Tryz.etyNums rfl rfl hbr hsz HOR.out HY.out (fun x hx => hx.elim) (by unfold maxLen; omega) (by omega) ?_)
            intro v2 w3 ho3 hb3
            have HZ := Lib.hid (Own.mono ho3 (F' := fun x => False ∨ w.heap.size ≤ x) fun x _ h => by first | exact h | exact .inr h)
            clear ho3
            go_wp2_with fail
            go_roundw
            case rel => exact ⟨k + 7, ns ++ [n], by omega, by go_num, by simp; omega, fun _ => by simp; omega, by simp; omega, HZ.out, hb3, hb3.size⟩
            case measure => simp [intOf]; omega
      · have h7i : (xs.length : Int) < (k : Int) + 7 := by omega
        have HOR := Lib.hid hor
        clear hor
        go_wp2_with fail
        obtain ⟨M, hM⟩ : ∃ M, xs.length - k = M := ⟨_, rfl⟩
        rw [hM]
        have hM7 : M ≤ 7 := by omega
        have hMx : k + M ≤ xs.length := by omega
        clear hM
        go_loop [6, 37] (fun vn vi => ∃ (j : Nat) (n : Int), j ≤ M ∧ vi = .int .i64 j ∧ vn = .int .u64 n ∧ 0 ≤ n ∧ n < 18446744073709551616) (fun _ vi => M - (intOf vi).toNat)
        case atStart => exact ⟨0, 0, Nat.zero_le _, rfl, rfl, by omega, by omega⟩
        case round =>
          obtain ⟨j, n, hj, rfl, rfl, n0, n1⟩ := hrel
          by_cases hjl : j < M
          · obtain ⟨b', off', hbo, -, -, d0, d1, hc⟩ := bytes_at (bytesR.keepB H.out hbr) (k + j) (by omega)
            simp at hbo
            obtain ⟨rfl, rfl⟩ := hbo
            rw [← Nat.add_assoc] at hc
            generalize xs[k + j] = x at *
            have hin := or_in n0 n1 (wrap_in (x * 2 ^ (8 * j))).1 (wrap_in (x * 2 ^ (8 * j))).2
            have HIN := Lib.hid hin
            clear hin
            go_wp2_with fail
            go_round
            case rel => exact ⟨j + 1, _, by omega, by go_num, rfl, HIN.out.1, HIN.out.2⟩
            case measure => simp [intOf]; omega
          · obtain rfl : j = M := by omega
            have HY : Hid (u64R.rel (fun _ => False) wr [.int .u64 n] n) := ⟨rfl, okU_of n0 n1⟩
            go_wp2_with (at_builtin; refine wpList_push (r := u64R) (wr := wr) (es := [.int .u64 n]) (v := u3) (w0 := w) (B := w.heap.size) rfl _ _ rfl Tryz.etyNums rfl rfl hbr hsz HOR.out HY.out (fun x hx => hx.elim) (by unfold maxLen; omega) (by omega) ?_)
            intro v2 w3 ho3 hb3
            have HZ := Lib.hid (Own.mono ho3 (F' := fun x => False ∨ w.heap.size ≤ x) fun x _ h => by first | exact h | exact .inr h)
            clear ho3
            go_wp2_with fail
            go_roundw
            case rel => exact ⟨k + 7, ns ++ [n], by omega, by go_num, by simp; omega, fun _ => by simp; omega, by simp; omega, HZ.out, hb3, hb3.size⟩
            case measure => simp [intOf]; omega
    · obtain ⟨a2, c2, rfl, -, -⟩ := sliceR.form hor.slice
      have HS := Lib.hid (numsR.mono hor.slice (S' := fun _ => True) fun _ _ _ => trivial)
      clear hor
      go_wp2_with fail
      go_ret
      exact ⟨ns, a2, c2, by omega, rfl, HS.out, hbr⟩

/-- Some hash was returned. -/
def SomeH (w : World) (e : Ending) (w' : World) : Prop := ∃ x : Int, e = .returned (.int .u64 x) ∧ 0 ≤ x ∧ x < 18446744069414584321 ∧ Below w.heap.size w w'
theorem hashBytes_any (S : Nat → Prop) (w : World) (label : Int) (l0 : 0 ≤ label) (a : Option Addr) (cap : Nat) (xs : List Int) (h : bytesR.rel S w [.slice a xs.length cap] xs) (hx : xs.length ≤ 100000) :
    Calls Tryz.prog 53 #[.int .u64 label, .slice a xs.length cap] w (SomeH w) := by
  go_enter Tryz.func53, Tryz.ntmps53
  go_wp2_with fail
  refine (pack_any S w a cap xs h hx).mono ?_
  rintro e w1 ⟨ys, a1, c1, hyl, rfl, hr, hb1⟩
  go_wp2_with fail
  refine (Hash_big label l0 (fun _ => True) w1 a1 c1 ys hr (by omega)).mono ?_
  rintro e w2 ⟨rfl, hb2⟩
  have hin := hashS_in label ys
  generalize hashS label ys = x at *
  go_wp2_with fail
  go_ret
  exact ⟨x, rfl, hin.1, hin.2, bnext hb1 hb2⟩
end Go.Proofs.YthggdacincfplaaGreatDoor
