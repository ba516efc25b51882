/- The walks of NetworkMatchesList and NetworkSteps. -/
import Derived.Test.YtccckjaefnojaaaS
namespace Go.Proofs.Ytccckjaefnojaaa
open Go.ChangeShapes Go.WideShapes Go.ChangeAt Go.RowKit

set_option maxRecDepth 100000 in
set_option maxHeartbeats 4000000 in
theorem play_bad (w : World) (nodes : Int) (a : Option Addr) (n cap : Nat) (h : nodes < 1 ∨ 64 < nodes) :
    Calls Try.prog 18 #[.int .i64 nodes, .slice a n cap] w fun e w' => e = .returned (.tuple #[.pointer none, .slice none 0 0, .bool true]) ∧ w = w' := by
  rcases h with h | h
  · go_enter Try.func18, Try.ntmps18
    go_wp2_with fail
    refine (new_bad nodes w (.inl h)).mono ?_
    rintro e w0 ⟨rfl, rfl⟩
    go_wp2_with fail
    go_ret3
    exact ⟨rfl, rfl⟩
  · have h' : ¬ nodes < 1 := by omega
    go_enter Try.func18, Try.ntmps18
    go_wp2_with fail
    refine (new_bad nodes w (.inr h)).mono ?_
    rintro e w0 ⟨rfl, rfl⟩
    go_wp2_with fail
    go_ret3
    exact ⟨rfl, rfl⟩

theorem opsIn {S : Nat → Prop} {w w1 : World} {v : Value} {ops : List OpM} (h : (sliceR opR).rel S w [v] ops) (hb : Below w.heap.size w w1) : (sliceR opR).rel (fun k => k < w1.heap.size) w1 [v] ops :=
  (sliceR opR).mono (((sliceR opR).keepB h hb)) fun _ hk _ => hk

set_option maxRecDepth 100000 in
set_option maxHeartbeats 2000000 in
theorem matches_any (w : World) (nodes : Int) (a : Option Addr) (cap : Nat) (ops : List OpM) (hops : (sliceR opR).rel (fun k => k < w.heap.size) w [.slice a ops.length cap] ops) :
    Calls Try.prog 5 #[.int .i64 nodes, .slice a ops.length cap] w fun e w' => e = .returned (.bool true) ∧ Below w.heap.size w w' := by
  go_enter Try.func5, Try.ntmps5
  go_wp2_with fail
  refine (awake_any w).mono ?_
  rintro e w1 ⟨rfl, hb1⟩
  go_wp2_with fail
  refine (fair_any _ w1 a cap ops ((sliceR opR).keepB hops hb1)).mono ?_
  rintro e w2 ⟨rfl, hb2⟩
  have hb02 := bnext hb1 hb2
  generalize hf : fairB ops = f
  cases f with
  | false =>
    go_wp2_with fail
    refine (awake_any w2).mono ?_
    rintro e w3 ⟨rfl, hb3⟩
    go_wp2_with fail
    go_ret
    exact ⟨rfl, bnext hb02 hb3⟩
  | true =>
    have HF := Lib.hid hf
    clear hf
    by_cases hv : 1 ≤ nodes ∧ nodes ≤ 64
    · have hplay := play_any w2 nodes a cap ops hv.1 hv.2 (opsIn hops hb02) HF.out
      generalize playL nodes ops = ms at hplay
      have HP := Lib.hid hplay
      clear hplay
      go_wp2_with fail
      refine HP.out.mono ?_
      rintro e w3 ⟨p, lv, rfl, O, R, hn, hO, hlr, hR, hb3⟩
      obtain ⟨lva, lvc, rfl, g5, g6⟩ := sliceR.form hlr
      go_wp2_with fail
      refine (pending_any O w3 p nodes ms hn).mono ?_
      rintro e w4 ⟨pa, pc, rfl, hr4, hb4⟩
      go_wp2_with fail
      refine (same_any _ R w4 ms ms pa lva pc lvc hr4 (msgsR.keepB hlr hb4)).mono ?_
      rintro e w5 ⟨rfl, hb5⟩
      rw [sameB_refl]
      go_wp2_with fail
      go_ret
      exact ⟨rfl, bnext (bnext (bnext hb02 hb3) hb4) hb5⟩
    · have hbad := play_bad w2 nodes a ops.length cap (by omega)
      have HP := Lib.hid hbad
      clear hbad
      go_wp2_with fail
      refine HP.out.mono ?_
      rintro e w3 ⟨rfl, rfl⟩
      go_wp2_with fail
      go_ret
      exact ⟨rfl, hb02⟩

theorem fair_take {l : List OpM} (h : fairB l = true) (k : Nat) : fairB (l.take k) = true := by
  unfold fairB at h ⊢
  simp only [Bool.and_eq_true, List.all_eq_true, decide_eq_true_eq] at h ⊢
  exact ⟨fun o ho => h.1 o (List.mem_of_mem_take ho), by simp; omega⟩

set_option maxRecDepth 100000 in
set_option maxHeartbeats 2000000 in
theorem steps_any (w : World) (nodes : Int) (a : Option Addr) (cap : Nat) (ops : List OpM) (hops : (sliceR opR).rel (fun k => k < w.heap.size) w [.slice a ops.length cap] ops) :
    Calls Try.prog 6 #[.int .i64 nodes, .slice a ops.length cap] w fun e w' => e = .returned (.bool true) ∧ Below w.heap.size w w' := by
  obtain ⟨-, g1, g2, -⟩ := sliceR.lens hops
  unfold maxLen at g2
  go_enter Try.func6, Try.ntmps6
  go_wp2_with fail
  refine (awake_any w).mono ?_
  rintro e w1 ⟨rfl, hb1⟩
  go_wp2_with fail
  refine (fair_any _ w1 a cap ops ((sliceR opR).keepB hops hb1)).mono ?_
  rintro e w2 ⟨rfl, hb2⟩
  have hb02 := bnext hb1 hb2
  generalize hf : fairB ops = f
  cases f with
  | false =>
    go_wp2_with fail
    refine (awake_any w2).mono ?_
    rintro e w3 ⟨rfl, hb3⟩
    go_wp2_with fail
    go_ret
    exact ⟨rfl, bnext hb02 hb3⟩
  | true =>
    have HF := Lib.hid hf
    clear hf
    by_cases h15 : 15 < ops.length
    · go_wp2_with fail
      refine (awake_any w2).mono ?_
      rintro e w3 ⟨rfl, hb3⟩
      go_wp2_with fail
      go_ret
      exact ⟨rfl, bnext hb02 hb3⟩
    · go_wp2_with fail
      go_loopw [24] (fun i wr => ∃ k : Nat, k ≤ ops.length ∧ i = .int .i64 k ∧ Below w.heap.size w wr) (fun i _ => ops.length - (intOf i).toNat)
      case atStart => exact ⟨0, Nat.zero_le _, rfl, hb02⟩
      case round =>
        obtain ⟨k, hk, rfl, hbr⟩ := hrel
        by_cases hlt : k < ops.length
        · have t1 : (0 : Int) ≤ (k : Int) + 1 := by omega
          have t2 : (k : Int) + 1 ≤ (cap : Int) := by omega
          have hopk := sliceR.take (opsIn hops hbr) (k + 1) (by omega)
          have hlen : (ops.take (k + 1)).length = k + 1 := by simp; omega
          by_cases hv : 1 ≤ nodes ∧ nodes ≤ 64
          · have hplay := play_any wr nodes a cap (ops.take (k + 1)) hv.1 hv.2 (by rw [hlen]; exact hopk) (fair_take HF.out (k + 1))
            rw [hlen] at hplay
            generalize playL nodes (ops.take (k + 1)) = ms at hplay
            have HP := Lib.hid hplay
            clear hplay hlen hopk
            go_wp2_with fail
            refine HP.out.mono ?_
            rintro e w3 ⟨p, lv, rfl, O, R, hn, hO, hlr, hR, hb3⟩
            obtain ⟨lva, lvc, rfl, g5, g6⟩ := sliceR.form hlr
            go_wp2_with fail
            refine (pending_any O w3 p nodes ms hn).mono ?_
            rintro e w4 ⟨pa, pc, rfl, hr4, hb4⟩
            go_wp2_with fail
            refine (same_any _ R w4 ms ms pa lva pc lvc hr4 (msgsR.keepB hlr hb4)).mono ?_
            rintro e w5 ⟨rfl, hb5⟩
            rw [sameB_refl]
            have hbw := bnext (bnext (bnext hbr hb3) hb4) hb5
            go_wp2_with fail
            go_roundw
            case rel => exact ⟨k + 1, by omega, by go_num, hbw⟩
            case measure => simp [intOf]; omega
          · have hbad := play_bad wr nodes a (k + 1) cap (by omega)
            have HP := Lib.hid hbad
            clear hbad hlen hopk
            go_wp2_with fail
            refine HP.out.mono ?_
            rintro e w3 ⟨rfl, rfl⟩
            go_wp2_with fail
            go_roundw
            case rel => exact ⟨k + 1, by omega, by go_num, hbr⟩
            case measure => simp [intOf]; omega
        · go_wp2_with fail
          go_ret
          exact ⟨rfl, hbr⟩
end Go.Proofs.Ytccckjaefnojaaa
