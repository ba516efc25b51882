/- The walk of NetworkSize. -/
import Derived.Test.YtccckjaefnojaaaO
namespace Go.Proofs.Ytccckjaefnojaaa
open Go.ChangeShapes Go.WideShapes Go.ChangeAt Go.RowKit

theorem send_one (nodes : Int) (ms : List Msg) (m : Msg) : sendL nodes ms [m] = (addL nodes ms m, (fitsB nodes ms.length m).toNat) := by
  simp [sendL, sendStep]
theorem one_slice {F : Nat → Prop} {w : World} {a : Msg} {v1 : Value} (h1 : msgR.rel F w (cellsOf a v1) a) :
    (sliceR msgR).rel (fun k => F k ∨ k = w.heap.size) (w.alloc (.cells (cellsOf a v1).toArray 24)) [.slice (some ⟨w.heap.size, 0, none⟩) 1 1] [a] := by
  have hb := fun {cs x} (h : msgR.rel F w cs x) => msgR.mono (S' := fun k => F k ∨ k = w.heap.size) (msgR.keepB h (bnew (Below.refl w.heap.size w) (.cells (cellsOf a v1).toArray 24))) fun _ _ h => .inl h
  refine slice_box (css := [cellsOf a v1]) (xs := [a]) (by simpa using box_new w (.cells (cellsOf a v1).toArray 24)) (.inr rfl) rfl (by unfold maxLen; simp) fun i cs x hc hx => ?_
  match i with
  | 0 => simp at hc hx; subst hc hx; exact hb h1
  | i + 1 => simp at hc

set_option maxRecDepth 100000 in
set_option maxHeartbeats 2000000 in
theorem size_no (w : World) (kind a1 : Int) (h : 3 < a1) :
    Calls Try.prog 4 #[.int .i64 kind, .int .u8 a1] w fun e w' => e = .returned (.bool true) ∧ Below w.heap.size w w' := by
  go_enter Try.func4, Try.ntmps4
  go_wp2_with fail
  refine (awake_any w).mono ?_
  rintro e w1 ⟨rfl, hb1⟩
  go_wp2_with fail
  refine (awake_any w1).mono ?_
  rintro e w2 ⟨rfl, hb2⟩
  go_wp2_with fail
  go_ret
  exact ⟨rfl, bnext hb1 hb2⟩

set_option maxRecDepth 100000 in
set_option maxHeartbeats 2000000 in
theorem size_yes (w : World) (kind : Int) (hk : (Lit.int .i64 kind).wf = true) (j : Nat) (hj : j ≤ 3) :
    Calls Try.prog 4 #[.int .i64 kind, .int .u8 j] w fun e w' => e = .returned (.bool true) ∧ Below w.heap.size w w' := by
  go_enter Try.func4, Try.ntmps4
  go_wp2_with fail
  refine (awake_any w).mono ?_
  rintro e w1 ⟨rfl, hb1⟩
  go_wp2_with fail
  refine (new_ok 3 w1 (by omega) (by omega)).mono ?_
  rintro e w2 ⟨rfl, hw2⟩
  have hb2 : Below w1.heap.size w1 w2 := by rw [hw2]; exact bnew (Below.refl _ _) _
  have hz2 : w2.heap.size = w1.heap.size + 1 := by rw [hw2]; simp
  have hn2 : NetAt (fun k => k = w1.heap.size) w2 w1.heap.size 3 [] := by
    rw [hw2]; exact (NetAt.new (by omega) (by omega)).mono fun k hk h => by simp at hk; omega
  have HZ2 := Lib.hid hz2
  clear hw2 hz2
  go_wp2_with (at_make; refine wpList_make_n rfl _ _ rfl (intR .u8) w2.heap.size Try.ety22 (z := .int .u8 0) (by kernel_rfl) (x0 := 0) (fun _ _ => ⟨rfl, rfl⟩) (n := 4194303 + j) rfl rfl ?_ ?_ ?_ ?_ ?_ ?_)
  · omega
  · omega
  · omega
  · unfold maxLen; omega
  · exact Nat.le_refl _
  intro w3 ho3 hb3
  have hz3 := hb3.size
  generalize hm : (⟨kind, 2, 0, List.replicate (4194303 + j) 0⟩ : Msg) = m
  have hmb : m.bytes.length = 4194303 + j := by rw [← hm]; simp
  have hr3 : msgR.rel (fun k => w1.heap.size < k) w3 (cellsOf m (.slice (some ⟨w2.heap.size, 0, none⟩) (4194303 + j) (4194303 + j))) m := by
    rw [← hm]
    refine msgR.mk (m := ⟨kind, 2, 0, List.replicate (4194303 + j) 0⟩) hk rfl rfl (bytesR.mono ho3.slice fun k _ h => ?_)
    have := HZ2.out; omega
  have e1 : m.kind = kind := by rw [← hm]
  have e2 : m.frm = 2 := by rw [← hm]
  have e3 : m.to = 0 := by rw [← hm]
  have hbx := bnew (Below.refl w3.heap.size w3) (.cells #[.int .i64 kind, .int .i64 2, .int .i64 0, .slice (some ⟨w2.heap.size, 0, none⟩) (4194303 + j) (4194303 + j)] 24)
  have hsl := one_slice (msgR.keepB hr3 hbx)
  have hbA := bnew hbx (.cells #[.int .i64 kind, .int .i64 2, .int .i64 0, .slice (some ⟨w2.heap.size, 0, none⟩) (4194303 + j) (4194303 + j)] 24)
  have hbB := bnext (bnext (bnext hb1 hb2) hb3) hbA
  have hz3 := hb3.size
  unfold cellsOf at hsl
  rw [e1, e2, e3, World.size_alloc] at hsl
  have hsend := send_any _ _ _ w1.heap.size 3 [] (some ⟨w3.heap.size + 1, 0, none⟩) 1 [m] (hn2.keep (Kept.of_below (bnext hb3 hbA))) hsl (fun k hk h => by have := HZ2.out; rcases hk with hk | hk <;> omega)
  rw [send_one] at hsend
  have hfit : fitsB 3 ([] : List Msg).length m = decide (j < 2) := by
    unfold fitsB
    rw [e2, e3, hmb]
    exact decide_eq_decide.2 ⟨fun h => by omega, fun h => ⟨by omega, by omega, by omega, by omega, by omega, by simp⟩⟩
  have hadd : addL 3 [] m = if j < 2 then [m] else [] := by
    unfold addL
    rw [hfit]
    by_cases h : j < 2 <;> simp [h]
  rw [hfit, hadd] at hsend
  have HSE := Lib.hid hsend
  clear hsend hfit hadd hsl hr3 e1 e2 e3 hm hmb hn2 ho3
  by_cases h2 : j < 2
  · have H := HSE.out
    rw [if_pos h2, decide_eq_true h2] at H
    have HH := Lib.hid H
    clear H HSE
    have d2 : decide ((j : Int) < 2) = true := decide_eq_true (by omega)
    go_wp2_with fail
    refine HH.out.mono ?_
    rintro e w5 ⟨rfl, hn5, hk5⟩
    have hb5 : Below w.heap.size w w5 := Kept.behind hbB hk5 hbB.size fun k hk h => by have := hb1.size; omega
    go_wp2_with fail
    refine (len_any _ _ _ _ _ hn5).mono ?_
    rintro e w6 ⟨rfl, rfl⟩
    go_wp2_with fail
    go_ret
    exact ⟨rfl, hb5⟩
  · have H := HSE.out
    rw [if_neg h2, decide_eq_false h2] at H
    have HH := Lib.hid H
    clear H HSE
    have d2 : decide ((j : Int) < 2) = false := decide_eq_false (by omega)
    go_wp2_with fail
    refine HH.out.mono ?_
    rintro e w5 ⟨rfl, hn5, hk5⟩
    have hb5 : Below w.heap.size w w5 := Kept.behind hbB hk5 hbB.size fun k hk h => by have := hb1.size; omega
    go_wp2_with fail
    refine (len_any _ _ _ _ _ hn5).mono ?_
    rintro e w6 ⟨rfl, rfl⟩
    go_wp2_with fail
    go_ret
    exact ⟨rfl, hb5⟩

theorem networkSize_any (w : World) (kind a1 : Int) (hk : (Lit.int .i64 kind).wf = true) (h1 : (Lit.int .u8 a1).wf = true) :
    Calls Try.prog 4 #[.int .i64 kind, .int .u8 a1] w fun e w' => e = .returned (.bool true) ∧ Below w.heap.size w w' := by
  have hx : 0 ≤ a1 ∧ a1 ≤ 255 := by simpa [Lit.wf, IntKind.min, IntKind.max, IntKind.signed, IntKind.bits] using h1
  by_cases h : 3 < a1
  · exact size_no w kind a1 h
  · obtain ⟨j, rfl⟩ := Int.eq_ofNat_of_zero_le hx.1
    exact size_yes w kind hk j (by omega)
end Go.Proofs.Ytccckjaefnojaaa
