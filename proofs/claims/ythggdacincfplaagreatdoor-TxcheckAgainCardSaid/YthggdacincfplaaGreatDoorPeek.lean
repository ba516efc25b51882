/- The oracle's answers without asking, where nothing is recorded. -/
import Derived.Test.YthggdacincfplaaGreatDoorSponge
import Derived.Test.YthggdacincfplaaGreatDoorWireB
import Derived.Test.YthggdacincfplaaGreatDoorValid
import Derived.Test.YthggdacincfplaaGreatDoorOr
import Derived.Laws.BytesArg
namespace Go.Proofs.YthggdacincfplaaGreatDoor
open Go.ChangeShapes Go.WideShapes Go.ChangeAt Go.RowKit

set_option maxRecDepth 100000 in
set_option maxHeartbeats 1000000 in
theorem appendNumber_any (w0 w : World) (B : Nat) (hb : Below B w0 w) (hB0 : B ≤ w0.heap.size) (v : Value) (xs : List Int) (ho : Own u8R B 5 (fun x => False ∨ B ≤ x) w v xs) (n : Int) (n0 : 0 ≤ n) (n1 : n < 18446744073709551616)
    (hl : xs.length ≤ 1000000000) : Calls Tryz.prog 165 #[v, .int .u64 n] w (GrewTo B w0 (xs ++ digs 8 n)) := by
  go_enter Tryz.func165, Tryz.ntmps165
  go_wp2_with fail
  go_loopw [0, 1, 5] (fun vb vn vi wr => ∃ (k : Nat) (m : Int) (ys : List Int), k ≤ 8 ∧ vi = .int .i64 k ∧ vn = .int .u64 m ∧ 0 ≤ m ∧ m < 18446744073709551616 ∧ ys.length = xs.length + k ∧ Hid (ys ++ digs (8 - k) m = xs ++ digs 8 n) ∧
      Own u8R B 5 (fun x => False ∨ B ≤ x) wr vb ys ∧ Below B w0 wr ∧ B ≤ wr.heap.size) (fun _ _ vi _ => 8 - (intOf vi).toNat)
  case atStart => exact ⟨0, n, xs, Nat.zero_le _, rfl, rfl, n0, n1, rfl, rfl, ho, hb, Nat.le_trans hB0 hb.size⟩
  case round =>
    obtain ⟨k, m, ys, hk, rfl, rfl, m0, m1, hyl, hinv, hor, hbr, hBr⟩ := hrel
    have HYL := Lib.hid hyl
    clear hyl
    by_cases hlt : k < 8
    · have HI : Hid ((ys ++ [m % 256]) ++ digs (8 - (k + 1)) (m / 256) = xs ++ digs 8 n) := by
        show _ = _
        rw [← hinv.out, List.append_assoc, show 8 - k = (8 - (k + 1)) + 1 by omega]
        rfl
      have hwf : (Lit.int .u8 (m % 256)).wf = true := by
        simp [Lit.wf, IntKind.min, IntKind.max, IntKind.signed, IntKind.bits]; omega
      have hyR : u8R.rel (fun _ => False) wr [.int .u8 (m % 256)] (m % 256) := ⟨rfl, hwf⟩
      have HO := Lib.hid hor
      have HY := Lib.hid hyR
      have e2 : 0 ≤ m / 256 := by omega
      have e3 : m / 256 < 18446744073709551616 := by omega
      clear hor hyR hwf
      go_wp2_with (at_builtin; refine wpList_push (r := u8R) (wr := wr) (es := [.int .u8 (m % 256)]) (v := u0) (w0 := w0) (B := B) rfl _ _ rfl Tryz.etyBytes rfl rfl hbr hBr HO.out HY.out (fun x hx => hx.elim) (by unfold maxLen; have := HYL.out; omega) (by have := HYL.out; omega) ?_)
      intro v2 w2 ho2 hb2
      have HZ := Lib.hid (Own.mono ho2 (F' := fun x => False ∨ B ≤ x) fun x _ h => by first | exact h | exact .inr h)
      have hB2 : B ≤ w2.heap.size := Nat.le_trans hB0 hb2.size
      clear ho2
      go_wp2_with fail
      go_roundw
      case rel => exact ⟨k + 1, m / 256, ys ++ [m % 256], by omega, by go_num, rfl, e2, e3, by rw [List.length_append, HYL.out]; simp; omega, HI, HZ.out, hb2, hB2⟩
      case measure => simp [intOf]; omega
    · obtain rfl : k = 8 := by omega
      have HF : Hid (ys = xs ++ digs 8 n) := by
        show _ = _
        rw [← hinv.out, Nat.sub_self]; simp [digs]
      go_wp2_with fail
      go_ret
      exact ⟨_, rfl, by rw [← HF.out]; exact hor, hbr⟩

/-- Bytes turn into a string. -/
theorem bytes_string {S : Nat → Prop} {w : World} {v : Value} {ys : List Int} (h : bytesR.rel S w [v] ys) : ∃ s, (convert 34 9 v).run Tryz.prog w = .ok (.string s) w := by
  obtain ⟨a, cap, rfl, -⟩ := sliceR.form h
  cases ys with
  | nil =>
    cases a with
    | none => exact ⟨_, run_convert_bytes_nil (P := Tryz.prog) w 34 5 Tryz.underlying34 Tryz.underlying5 _ _ 9 Tryz.underlying9⟩
    | some ad =>
      refine ⟨(Conv.bytesToString (.slice (some ad) 0 cap)).run Tryz.prog w |> fun _ => ByteArray.empty, ?_⟩
      rw [run_convert_bytes_string (P := Tryz.prog) w 34 9 5 _ _ _ Tryz.underlying34 Tryz.underlying5 Tryz.underlying9]
      have hl : (loadCells ad 0).run Tryz.prog w = .ok #[] w := by simpa using run_loadCells_list (P := Tryz.prog) w ad [] (by simp)
      rw [List.length_nil, run_bytesToString (P := Tryz.prog) w ad 0 cap [] (by simpa using hl)]
      rfl
  | cons y ys =>
    obtain ⟨b, off, es, rfl, -, -, -, -⟩ := sliceR.at h 0 (by simp)
    refine ⟨_, run_convert_bytes_arg (P := Tryz.prog) w 34 5 Tryz.underlying34 Tryz.underlying5 b off (y :: ys).length cap (y :: ys) rfl (fun i hi => ?_) 9 Tryz.underlying9⟩
    obtain ⟨b', off', he, -, -, -, -, hc⟩ := bytes_at h i hi
    simp at he
    obtain ⟨rfl, rfl⟩ := he
    rw [hc, getD_at _ _ i hi]

set_option maxRecDepth 100000 in
set_option maxHeartbeats 2000000 in
theorem key_any (S S' : Nat → Prop) (w : World) (a b : Option Addr) (ca cb : Nat) (l m : List Int) (h : numsR.rel S w [.slice a l.length ca] l) (h' : numsR.rel S' w [.slice b m.length cb] m) (hl : l.length ≤ 1000) (hm : m.length ≤ 1000) :
    Calls Tryz.prog 102 #[.slice a l.length ca, .slice b m.length cb] w fun e w' => (∃ s, e = .returned (.string s)) ∧ Below w.heap.size w w' := by
  have H := Lib.hid h
  have H' := Lib.hid h'
  clear h h'
  go_enter Tryz.func102, Tryz.ntmps102
  go_wp2_with (at_make; refine wpList_make_rel rfl _ _ rfl u8R w.heap.size Tryz.etyBytes rfl rfl (n := 8 * (m.length + l.length)) ?_ ?_ ?_ ?_ ?_)
  · go_num
  · omega
  · unfold maxLen; omega
  · exact Nat.le_refl _
  intro w1 ho1 hb1
  have HO1 := Lib.hid (Own.mono ho1 (F' := fun x => False ∨ w.heap.size ≤ x) fun x _ h => .inr (by omega))
  clear ho1
  go_wp2_with fail
  go_loopw [5, 19] (fun vb vi wr => ∃ (k : Nat) (ys : List Int), k ≤ m.length ∧ vi = .int .i64 k ∧ ys.length = 8 * k ∧ Own u8R w.heap.size 5 (fun x => False ∨ w.heap.size ≤ x) wr vb ys ∧ Below w.heap.size w wr) (fun _ vi _ => m.length - (intOf vi).toNat)
  case atStart => exact ⟨0, [], Nat.zero_le _, rfl, rfl, HO1.out, hb1⟩
  case round =>
    obtain ⟨k, ys, hk, rfl, hyl, hor, hbr⟩ := hrel
    by_cases hlt : k < m.length
    · obtain ⟨bb, off, rfl, hbl, n0, n1, hc⟩ := nums_at (numsR.keepB H'.out hbr) k hlt
      generalize m[k] = n at *
      go_wp2_with fail
      refine (appendNumber_any w wr w.heap.size hbr (Nat.le_refl _) _ ys hor n n0 n1 (by omega)).mono ?_
      rintro e w3 ⟨v3, rfl, ho3, hb3⟩
      go_wp2_with fail
      go_roundw
      case rel => exact ⟨k + 1, ys ++ digs 8 n, by omega, by go_num, by rw [List.length_append, digs_len]; omega, ho3, hb3⟩
      case measure => simp [intOf]; omega
    · obtain rfl : k = m.length := by omega
      go_wp2_with fail
      go_loopw [5, 29] (fun vb vi wr => ∃ (k : Nat) (ys : List Int), k ≤ l.length ∧ vi = .int .i64 k ∧ ys.length = 8 * m.length + 8 * k ∧ Own u8R w.heap.size 5 (fun x => False ∨ w.heap.size ≤ x) wr vb ys ∧ Below w.heap.size w wr) (fun _ vi _ => l.length - (intOf vi).toNat)
      case atStart => exact ⟨0, ys, Nat.zero_le _, rfl, by omega, hor, hbr⟩
      case round =>
        clear hor hbr hyl
        obtain ⟨k, ys, hk, rfl, hyl, hor, hbr⟩ := hrel
        by_cases hlt : k < l.length
        · obtain ⟨bb, off, rfl, hbl, n0, n1, hc⟩ := nums_at (numsR.keepB H.out hbr) k hlt
          generalize l[k] = n at *
          go_wp2_with fail
          refine (appendNumber_any w _ w.heap.size hbr (Nat.le_refl _) _ ys hor n n0 n1 (by omega)).mono ?_
          rintro e w3 ⟨v3, rfl, ho3, hb3⟩
          go_wp2_with fail
          go_roundw
          case rel => exact ⟨k + 1, ys ++ digs 8 n, by omega, by go_num, by rw [List.length_append, digs_len]; omega, ho3, hb3⟩
          case measure => simp [intOf]; omega
        · obtain rfl : k = l.length := by omega
          obtain ⟨s, hs⟩ := bytes_string hor.slice
          go_wp2_with fail
          go_ret
          exact ⟨⟨s, rfl⟩, hbr⟩
end Go.Proofs.YthggdacincfplaaGreatDoor
