/- The permutation at the big prime: Permute. -/
import Derived.Test.YthggdacincfplaaGreatDoorPerm
import Derived.Test.YthggdacincfplaaGreatDoorKitQ
namespace Go.Proofs.YthggdacincfplaaGreatDoor
open Go.ChangeShapes Go.WideShapes Go.ChangeAt Go.RowKit Go.Sort

/-- The state at block B, zeros behind it, the prime behind these; blocks below B are as they were. -/
def PermAt (w : World) (s : T3) (wr : World) : Prop :=
  Below w.heap.size w wr ∧ wr.heap[w.heap.size]? = some (.cells #[.int .u64 s.1, .int .u64 s.2.1, .int .u64 s.2.2] 216 (0, 0)) ∧
    wr.heap[w.heap.size + 1]? = some (.cells #[.int .u64 0, .int .u64 0, .int .u64 0] 216 (0, 0)) ∧ wr.heap[w.heap.size + 2]? = some (.cells #[.int .u64 18446744069414584321] 169 (0, 0))
theorem PermAt.next {w w1 w2 : World} {s : T3} (h : PermAt w s w1) (hb : Below w1.heap.size w1 w2) : PermAt w s w2 :=
  ⟨bnext h.1 hb, box_after hb h.2.1, box_after hb h.2.2.1, box_after hb h.2.2.2⟩
theorem PermAt.start (w : World) (s : T3) : PermAt w s (((w.alloc (.cells #[.int .u64 s.1, .int .u64 s.2.1, .int .u64 s.2.2] 216)).alloc (.cells #[.int .u64 0, .int .u64 0, .int .u64 0] 216)).alloc (.cells #[.int .u64 18446744069414584321] 169)) := by
  obtain ⟨q1, q2, q3⟩ := three_new w (.cells #[.int .u64 s.1, .int .u64 s.2.1, .int .u64 s.2.2] 216) (.cells #[.int .u64 0, .int .u64 0, .int .u64 0] 216) (.cells #[.int .u64 18446744069414584321] 169)
  exact ⟨bnew (bnew (bnew (Below.refl _ _) _) _) _, q3, q2, q1⟩
theorem PermAt.store {w wr : World} {s : T3} (h : PermAt w s wr) (t : T3) : PermAt w t (((wr.setCell ⟨w.heap.size, 0, none⟩ (.int .u64 t.1)).setCell ⟨w.heap.size, 1, none⟩ (.int .u64 t.2.1)).setCell ⟨w.heap.size, 2, none⟩ (.int .u64 t.2.2)) := by
  obtain ⟨h1, h2, h3, h4⟩ := h
  refine ⟨((h1.setCell (Nat.le_refl _) _).setCell (Nat.le_refl _) _).setCell (Nat.le_refl _) _, box_set (box_set (box_set h2)), ?_, ?_⟩
  · have e1 : w.heap.size + 1 ≠ w.heap.size := by omega
    exact box_set_far (box_set_far (box_set_far h3 e1) e1) e1
  · have e1 : w.heap.size + 2 ≠ w.heap.size := by omega
    exact box_set_far (box_set_far (box_set_far h4 e1) e1) e1
theorem PermAt.one {w wr : World} {s t : T3} (h : PermAt w s wr) (i : Nat) (v : Value) (ht : (#[.int .u64 s.1, .int .u64 s.2.1, .int .u64 s.2.2] : Array Value).setIfInBounds i v = #[.int .u64 t.1, .int .u64 t.2.1, .int .u64 t.2.2]) : PermAt w t (wr.setCell ⟨w.heap.size, i, none⟩ v) := by
  obtain ⟨h1, h2, h3, h4⟩ := h
  refine ⟨h1.setCell (Nat.le_refl _) _, ht ▸ box_set h2, ?_, ?_⟩
  · have e1 : w.heap.size + 1 ≠ w.heap.size := by omega
    exact box_set_far h3 e1
  · have e1 : w.heap.size + 2 ≠ w.heap.size := by omega
    exact box_set_far h4 e1
theorem PermAt.drew {w wr : World} {s : T3} (h : PermAt w s wr) : PermAt w s wr.drew := ⟨h.1.drew, h.2.1, h.2.2.1, h.2.2.2⟩
theorem cstP_word (r i : Int) : 0 ≤ cstP r i := by unfold cstP; exact (redP_in _).1
/-- After i of the three powers of a round. -/
def stepS (r : Int) (s : T3) : Nat → T3
  | 0 => s
  | 1 => (sbox r 0 s.1, s.2.1, s.2.2)
  | 2 => (sbox r 0 s.1, sbox r 1 s.2.1, s.2.2)
  | _ => (sbox r 0 s.1, sbox r 1 s.2.1, sbox r 2 s.2.2)

set_option maxRecDepth 100000 in
set_option maxHeartbeats 4000000 in
theorem permute_big (s : T3) (hs : Words3 s) (w : World) :
    Calls Tryz.prog 169 #[.int .u64 18446744069414584321, .agg #[.int .u64 s.1, .int .u64 s.2.1, .int .u64 s.2.2]] w
      fun e w' => e = .returned (.agg #[.int .u64 (permS s).1, .int .u64 (permS s).2.1, .int .u64 (permS s).2.2]) ∧ Below w.heap.size w w' := by
  have hst := Lib.hid (PermAt.start w s)
  have HW := Lib.hid (permTo_words hs)
  clear hs
  go_enter Tryz.func169, Tryz.ntmps169
  go_wp2_with fail
  refine (valid_big _).mono ?_
  rintro e w1 ⟨rfl, hb1⟩
  have h1 := hst.out.next hb1
  obtain ⟨x0, x1⟩ := box_cells h1.2.2.2
  go_wp2_with fail
  refine (exponent_big _).mono ?_
  rintro e w2 ⟨rfl, hb2⟩
  have h2 := h1.next hb2
  clear x0 x1 h1 hst hb1 hb2
  go_wp2_with fail
  go_loopw [17] (fun i wr => ∃ k : Nat, k ≤ 8 ∧ i = .int .i64 k ∧ PermAt w (permTo s k) wr) (fun i _ => 8 - (intOf i).toNat)
  case atStart => exact ⟨0, by omega, rfl, h2⟩
  case round =>
    obtain ⟨k, hk, rfl, hp⟩ := hrel
    clear h2
    by_cases hlt : k < 8
    · have hwk := HW.out k
      have hsucc : Hid (permTo s (k + 1) = mixS (stepS k (permTo s k) 3)) := rfl
      generalize permTo s k = t at *
      have n0 : (0 : Int) ≤ (k : Int) := by omega
      have n1 : (k : Int) < 8 := by omega
      go_wp2_with fail
      go_loopw [20] (fun i wr => ∃ j : Nat, j ≤ 3 ∧ i = .int .i64 j ∧ PermAt w (stepS k t j) wr) (fun i _ => 3 - (intOf i).toNat)
      case atStart => exact ⟨0, by omega, rfl, hp⟩
      case round =>
        obtain ⟨j, hj, rfl, hq⟩ := hrel
        clear hp
        by_cases hj3 : j < 3
        · have hcase : j = 0 ∨ j = 1 ∨ j = 2 := by omega
          rcases hcase with h0 | h0 | h0
          · obtain rfl : j = 0 := by omega
            have hq' : PermAt w (t.1, t.2.1, t.2.2) wr := hq
            have HQ := Lib.hid hq'
            have x0 := box_regrown hq'.2.1
            have y0 := box_regrown hq'.2.2.2
            clear hq hq'
            have hx : 0 ≤ t.1 := by unfold Words3 at hwk; omega
            have hc := cstP_word k 0
            have ha := addP_word t.1 (cstP k 0)
            go_wp2_with fail
            refine wp_region_quiet_tail 14 (by kernel_rfl) (by kernel_rfl) ?_
            simp only [List.take_succ_cons, List.take_zero, List.drop_succ_cons, List.drop_zero]
            repeat (quiet_step (first
              | exact Calls.regrown_of (constant_big k 0 n0 n1 (by omega) (by omega) _)
              | exact Calls.regrown_of (Add_big t.1 (cstP k 0) hx hc _)
              | exact Calls.regrown_of (Pow_big (addP t.1 (cstP k 0)) ha.1 7 (by omega) _)))
            refine wpQuiet_nil ?_
            intro wq hw'
            obtain ⟨⟨dq, osq⟩, hw''⟩ := hw'
            have hbq := below_regrown wr dq osq
            rw [← hw''] at hbq
            clear hw'' x0 y0
            have pC := PermAt.next HQ.out hbq
            obtain ⟨c0, c1⟩ := box_cells pC.2.1
            have HN := Lib.hid (PermAt.one (t := (sbox k 0 t.1, t.2.1, t.2.2)) pC 0 (.int .u64 (sbox k 0 t.1)) rfl)
            clear pC
            unfold sbox at HN
            go_wp2_with fail
            go_roundw
            case rel => exact ⟨1, by omega, by go_num, HN.out⟩
            case measure => simp [intOf]
          · obtain rfl : j = 1 := by omega
            have hq' : PermAt w (sbox k 0 t.1, t.2.1, t.2.2) wr := hq
            have HQ := Lib.hid hq'
            have x0 := box_regrown hq'.2.1
            have y0 := box_regrown hq'.2.2.2
            clear hq hq'
            have hx : 0 ≤ t.2.1 := by unfold Words3 at hwk; omega
            have hc := cstP_word k 1
            have ha := addP_word t.2.1 (cstP k 1)
            go_wp2_with fail
            refine wp_region_quiet_tail 14 (by kernel_rfl) (by kernel_rfl) ?_
            simp only [List.take_succ_cons, List.take_zero, List.drop_succ_cons, List.drop_zero]
            repeat (quiet_step (first
              | exact Calls.regrown_of (constant_big k 1 n0 n1 (by omega) (by omega) _)
              | exact Calls.regrown_of (Add_big t.2.1 (cstP k 1) hx hc _)
              | exact Calls.regrown_of (Pow_big (addP t.2.1 (cstP k 1)) ha.1 7 (by omega) _)))
            refine wpQuiet_nil ?_
            intro wq hw'
            obtain ⟨⟨dq, osq⟩, hw''⟩ := hw'
            have hbq := below_regrown wr dq osq
            rw [← hw''] at hbq
            clear hw'' x0 y0
            have pC := PermAt.next HQ.out hbq
            obtain ⟨c0, c1⟩ := box_cells pC.2.1
            have HN := Lib.hid (PermAt.one (t := (sbox k 0 t.1, sbox k 1 t.2.1, t.2.2)) pC 1 (.int .u64 (sbox k 1 t.2.1)) rfl)
            clear pC
            unfold sbox at HN
            go_wp2_with fail
            go_roundw
            case rel => exact ⟨2, by omega, by go_num, HN.out⟩
            case measure => simp [intOf]
          · obtain rfl : j = 2 := by omega
            have hq' : PermAt w (sbox k 0 t.1, sbox k 1 t.2.1, t.2.2) wr := hq
            have HQ := Lib.hid hq'
            have x0 := box_regrown hq'.2.1
            have y0 := box_regrown hq'.2.2.2
            clear hq hq'
            have hx : 0 ≤ t.2.2 := by unfold Words3 at hwk; omega
            have hc := cstP_word k 2
            have ha := addP_word t.2.2 (cstP k 2)
            go_wp2_with fail
            refine wp_region_quiet_tail 14 (by kernel_rfl) (by kernel_rfl) ?_
            simp only [List.take_succ_cons, List.take_zero, List.drop_succ_cons, List.drop_zero]
            repeat (quiet_step (first
              | exact Calls.regrown_of (constant_big k 2 n0 n1 (by omega) (by omega) _)
              | exact Calls.regrown_of (Add_big t.2.2 (cstP k 2) hx hc _)
              | exact Calls.regrown_of (Pow_big (addP t.2.2 (cstP k 2)) ha.1 7 (by omega) _)))
            refine wpQuiet_nil ?_
            intro wq hw'
            obtain ⟨⟨dq, osq⟩, hw''⟩ := hw'
            have hbq := below_regrown wr dq osq
            rw [← hw''] at hbq
            clear hw'' x0 y0
            have pC := PermAt.next HQ.out hbq
            obtain ⟨c0, c1⟩ := box_cells pC.2.1
            have HN := Lib.hid (PermAt.one (t := (sbox k 0 t.1, sbox k 1 t.2.1, sbox k 2 t.2.2)) pC 2 (.int .u64 (sbox k 2 t.2.2)) rfl)
            clear pC
            unfold sbox at HN
            go_wp2_with fail
            go_roundw
            case rel => exact ⟨3, by omega, by go_num, HN.out⟩
            case measure => simp [intOf]
        · obtain rfl : j = 3 := by omega
          have HQ := Lib.hid hq
          obtain ⟨x0, x1⟩ := box_cells hq.2.1
          clear hq
          generalize hu : stepS k t 3 = u at *
          have HU := Lib.hid hu
          have hu0 : 0 ≤ u.1 ∧ 0 ≤ u.2.1 ∧ 0 ≤ u.2.2 := by
            rw [← hu]; exact ⟨(sbox_word _ _ _).1, (sbox_word _ _ _).1, (sbox_word _ _ _).1⟩
          clear hu
          go_wp2_with fail
          refine (mix_big u.1 u.2.1 u.2.2 hu0.1 hu0.2.1 hu0.2.2 _).mono ?_
          rintro e w3 ⟨rfl, hb3⟩
          have h3 := HQ.out.next hb3
          clear x0 x1
          obtain ⟨x0, x1⟩ := box_cells h3.2.1
          have HN := Lib.hid (PermAt.store h3 (mixS (u.1, u.2.1, u.2.2)))
          clear h3
          go_wp2_with fail
          go_roundw
          case rel => exact ⟨k + 1, by omega, by go_num, by rw [hsucc.out]; exact HN.out⟩
          case measure => simp [intOf]; omega
    · obtain rfl : k = 8 := by omega
      obtain ⟨h1, h2, h3, h4⟩ := hp
      obtain ⟨x0, x1⟩ := box_cells h2
      obtain ⟨y0, y1⟩ := box_cells h3
      have hpe : Hid (permS s = permTo s 8) := rfl
      generalize permTo s 8 = t at *
      obtain ⟨r0, r1, r2⟩ := read3 (x := .int .u64 t.1) (y := .int .u64 t.2.1) (z := .int .u64 t.2.2) (y0 0) (y0 1) (y0 2)
      go_wp2_with fail
      refine bodyPost_ret (v := .agg #[.int .u64 t.1, .int .u64 t.2.1, .int .u64 t.2.2]) (by simp [results, Tryz.results169, go_sem, r0, r1, r2]) rfl ⟨by rw [hpe.out], ?_⟩
      exact ((h1.setCell (Nat.le_succ _) _).setCell (Nat.le_succ _) _).setCell (Nat.le_succ _) _
end Go.Proofs.YthggdacincfplaaGreatDoor
