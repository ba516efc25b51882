/- The permutation at the big prime: Permute. -/
import Derived.Test.YtphacfkcifpobaaGreatDoorM02
import Derived.Test.YtphacfkcifpobaaGreatDoorM03
import Derived.Deep.Cut
import Derived.Deep.CutRange
import Derived.Laws.Bits64b
set_option maxRecDepth 100000
namespace Go.Proofs.YtphacfkcifpobaaGreatDoor
open Go.ChangeShapes Go.WideShapes Go.ChangeAt Go.RowKit Go.Sort
def PermAt (w : World) (s : T3) (wr : World) : Prop :=
 Below w.heap.size w wr ∧ wr.heap[w.heap.size]? = some (.cells #[.int .u64 s.1, .int .u64 s.2.1, .int .u64 s.2.2] 118 (0, 0)) ∧
   wr.heap[w.heap.size + 1]? = some (.cells #[.int .u64 0, .int .u64 0, .int .u64 0] 118 (0, 0)) ∧ wr.heap[w.heap.size + 2]? = some (.cells #[.int .u64 18446744069414584321] 117 (0, 0))
theorem PermAt.next {w w1 w2 : World} {s : T3} (h : PermAt w s w1) (hb : Below w1.heap.size w1 w2) : PermAt w s w2 :=
 ⟨bnext h.1 hb, box_after hb h.2.1, box_after hb h.2.2.1, box_after hb h.2.2.2⟩
theorem PermAt.start (w : World) (s : T3) : PermAt w s (((w.alloc (.cells #[.int .u64 s.1, .int .u64 s.2.1, .int .u64 s.2.2] 118)).alloc (.cells #[.int .u64 0, .int .u64 0, .int .u64 0] 118)).alloc (.cells #[.int .u64 18446744069414584321] 117)) := by
 obtain ⟨q1, q2, q3⟩ := three_new w (.cells #[.int .u64 s.1, .int .u64 s.2.1, .int .u64 s.2.2] 118) (.cells #[.int .u64 0, .int .u64 0, .int .u64 0] 118) (.cells #[.int .u64 18446744069414584321] 117)
 exact ⟨bnew (bnew (bnew (Below.refl _ _) _) _) _, q3, q2, q1⟩
theorem PermAt.store {w wr : World} {s : T3} (h : PermAt w s wr) (t : T3) : PermAt w t (((wr.setCell ⟨w.heap.size, 0, none⟩ (.int .u64 t.1)).setCell ⟨w.heap.size, 1, none⟩ (.int .u64 t.2.1)).setCell ⟨w.heap.size, 2, none⟩ (.int .u64 t.2.2)) := by
 obtain ⟨h1, h2, h3, h4⟩ := h
 refine ⟨((h1.setCell (Nat.le_refl _) _).setCell (Nat.le_refl _) _).setCell (Nat.le_refl _) _, box_set (box_set (box_set h2)), ?_, ?_⟩
 · have e1 : w.heap.size + 1 ≠ w.heap.size := by omega
   exact box_set_far (box_set_far (box_set_far h3 e1) e1) e1
 · have e1 : w.heap.size + 2 ≠ w.heap.size := by omega
   exact box_set_far (box_set_far (box_set_far h4 e1) e1) e1
theorem PermAt.one {w wr : World} {s t : T3} (h : PermAt w s wr) (i : Nat) (v : Value) (ht : (#[.int .u64 s.1, .int .u64 s.2.1, .int .u64 s.2.2] : Array Value).setIfInBounds i v = #[.int .u64 t.1, .int .u64 t.2.1, .int .u64 t.2.2]) : PermAt w t (wr.setCell ⟨w.heap.size, i, none⟩ v) := by
 obtain ⟨h1, h2, h3, h4⟩ := h
 refine ⟨h1.setCell (Nat.le_refl _) _, ht ▸ box_set h2, ?_, ?_⟩
 · have e1 : w.heap.size + 1 ≠ w.heap.size := by omega
   exact box_set_far h3 e1
 · have e1 : w.heap.size + 2 ≠ w.heap.size := by omega
   exact box_set_far h4 e1
theorem PermAt.drew {w wr : World} {s : T3} (h : PermAt w s wr) : PermAt w s wr.drew := ⟨h.1.drew, h.2.1, h.2.2.1, h.2.2.2⟩
theorem cstP_word (r i : Int) : 0 ≤ cstP r i := by unfold cstP; exact (redP_in _).1
def stepS (r : Int) (s : T3) : Nat → T3
 | 0 => s
 | 1 => (sbox r 0 s.1, s.2.1, s.2.2)
 | 2 => (sbox r 0 s.1, sbox r 1 s.2.1, s.2.2)
 | _ => (sbox r 0 s.1, sbox r 1 s.2.1, sbox r 2 s.2.2)
set_option maxHeartbeats 4000000 in
theorem permute_big (s : T3) (hs : Words3 s) (w : World) :
   Calls Tryz.prog 73 #[.int .u64 18446744069414584321, .agg #[.int .u64 s.1, .int .u64 s.2.1, .int .u64 s.2.2]] w
     fun e w' => e = .returned (.agg #[.int .u64 (permS s).1, .int .u64 (permS s).2.1, .int .u64 (permS s).2.2]) ∧ Below w.heap.size w w' := by
 have hst := Lib.hid (PermAt.start w s); have HW := Lib.hid (permTo_words hs); clear hs
 go_enter Tryz.func73, Tryz.ntmps73
 go_wp2_with fail
 refine (valid_big _).mono ?_
 rintro e w1 ⟨rfl, hb1⟩; have h1 := hst.out.next hb1; obtain ⟨x0, x1⟩ := box_cells h1.2.2.2; go_wp2_with fail
 refine (exponent_big _).mono ?_
 rintro e w2 ⟨rfl, hb2⟩; have h2 := h1.next hb2; clear x0 x1 h1 hst hb1 hb2; go_wp2_with fail
 go_loopw [17] (fun i wr => ∃ k : Nat, k ≤ 8 ∧ i = .int .i64 k ∧ PermAt w (permTo s k) wr) (fun i _ => 8 - (intOf i).toNat)
 case atStart => exact ⟨0, by omega, rfl, h2⟩
 case round =>
   obtain ⟨k, hk, rfl, hp⟩ := hrel; clear h2
   by_cases hlt : k < 8
   · have hwk := HW.out k
     have hsucc : Hid (permTo s (k + 1) = mixS (stepS k (permTo s k) 3)) := rfl; generalize permTo s k = t at *
     have n0 : (0 : Int) ≤ (k : Int) := by omega
     have n1 : (k : Int) < 8 := by omega
     go_wp2_with fail
     go_loopw [20] (fun i wr => ∃ j : Nat, j ≤ 3 ∧ i = .int .i64 j ∧ PermAt w (stepS k t j) wr) (fun i _ => 3 - (intOf i).toNat)
     case atStart => exact ⟨0, by omega, rfl, hp⟩
     case round =>
       obtain ⟨j, hj, rfl, hq⟩ := hrel; clear hp
       by_cases hj3 : j < 3
       · have hcase : j = 0 ∨ j = 1 ∨ j = 2 := by omega
         rcases hcase with h0 | h0 | h0
         · obtain rfl : j = 0 := by omega
           have hq' : PermAt w (t.1, t.2.1, t.2.2) wr := hq; have HQ := Lib.hid hq'; have x0 := box_regrown hq'.2.1; have y0 := box_regrown hq'.2.2.2; clear hq hq'
           have hx : 0 ≤ t.1 := by unfold Words3 at hwk; omega
           have hc := cstP_word k 0; have ha := addP_word t.1 (cstP k 0); go_wp2_with fail
           refine wp_region_quiet_tail 14 (by kernel_rfl) (by kernel_rfl) ?_
           simp only [List.take_succ_cons, List.take_zero, List.drop_succ_cons, List.drop_zero]
           repeat (quiet_step (first
             | exact Calls.regrown_of (constant_big k 0 n0 n1 (by omega) (by omega) _)
             | exact Calls.regrown_of (Add_big t.1 (cstP k 0) hx hc _)
             | exact Calls.regrown_of (Pow_big (addP t.1 (cstP k 0)) ha.1 7 (by omega) _)))
           refine wpQuiet_nil ?_
           intro wq hw'
           obtain ⟨⟨dq, osq⟩, hw''⟩ := hw'; have hbq := below_regrown wr dq osq; rw [← hw''] at hbq; clear hw'' x0 y0; have pC := PermAt.next HQ.out hbq; obtain ⟨c0, c1⟩ := box_cells pC.2.1; have HN := Lib.hid (PermAt.one (t := (sbox k 0 t.1, t.2.1, t.2.2)) pC 0 (.int .u64 (sbox k 0 t.1)) rfl); clear pC; unfold sbox at HN; go_wp2_with fail
           go_roundw
           case rel => exact ⟨1, by omega, by go_num, HN.out⟩
           case measure => simp [intOf]
         · obtain rfl : j = 1 := by omega
           have hq' : PermAt w (sbox k 0 t.1, t.2.1, t.2.2) wr := hq; have HQ := Lib.hid hq'; have x0 := box_regrown hq'.2.1; have y0 := box_regrown hq'.2.2.2; clear hq hq'
           have hx : 0 ≤ t.2.1 := by unfold Words3 at hwk; omega
           have hc := cstP_word k 1; have ha := addP_word t.2.1 (cstP k 1); go_wp2_with fail
           refine wp_region_quiet_tail 14 (by kernel_rfl) (by kernel_rfl) ?_
           simp only [List.take_succ_cons, List.take_zero, List.drop_succ_cons, List.drop_zero]
           repeat (quiet_step (first
             | exact Calls.regrown_of (constant_big k 1 n0 n1 (by omega) (by omega) _)
             | exact Calls.regrown_of (Add_big t.2.1 (cstP k 1) hx hc _)
             | exact Calls.regrown_of (Pow_big (addP t.2.1 (cstP k 1)) ha.1 7 (by omega) _)))
           refine wpQuiet_nil ?_
           intro wq hw'
           obtain ⟨⟨dq, osq⟩, hw''⟩ := hw'; have hbq := below_regrown wr dq osq; rw [← hw''] at hbq; clear hw'' x0 y0; have pC := PermAt.next HQ.out hbq; obtain ⟨c0, c1⟩ := box_cells pC.2.1; have HN := Lib.hid (PermAt.one (t := (sbox k 0 t.1, sbox k 1 t.2.1, t.2.2)) pC 1 (.int .u64 (sbox k 1 t.2.1)) rfl); clear pC; unfold sbox at HN; go_wp2_with fail
           go_roundw
           case rel => exact ⟨2, by omega, by go_num, HN.out⟩
           case measure => simp [intOf]
         · obtain rfl : j = 2 := by omega
           have hq' : PermAt w (sbox k 0 t.1, sbox k 1 t.2.1, t.2.2) wr := hq; have HQ := Lib.hid hq'; have x0 := box_regrown hq'.2.1; have y0 := box_regrown hq'.2.2.2; clear hq hq'
           have hx : 0 ≤ t.2.2 := by unfold Words3 at hwk; omega
           have hc := cstP_word k 2; have ha := addP_word t.2.2 (cstP k 2); go_wp2_with fail
           refine wp_region_quiet_tail 14 (by kernel_rfl) (by kernel_rfl) ?_
           simp only [List.take_succ_cons, List.take_zero, List.drop_succ_cons, List.drop_zero]
           repeat (quiet_step (first
             | exact Calls.regrown_of (constant_big k 2 n0 n1 (by omega) (by omega) _)
             | exact Calls.regrown_of (Add_big t.2.2 (cstP k 2) hx hc _)
             | exact Calls.regrown_of (Pow_big (addP t.2.2 (cstP k 2)) ha.1 7 (by omega) _)))
           refine wpQuiet_nil ?_
           intro wq hw'
           obtain ⟨⟨dq, osq⟩, hw''⟩ := hw'; have hbq := below_regrown wr dq osq; rw [← hw''] at hbq; clear hw'' x0 y0; have pC := PermAt.next HQ.out hbq; obtain ⟨c0, c1⟩ := box_cells pC.2.1; have HN := Lib.hid (PermAt.one (t := (sbox k 0 t.1, sbox k 1 t.2.1, sbox k 2 t.2.2)) pC 2 (.int .u64 (sbox k 2 t.2.2)) rfl); clear pC; unfold sbox at HN; go_wp2_with fail
           go_roundw
           case rel => exact ⟨3, by omega, by go_num, HN.out⟩
           case measure => simp [intOf]
       · obtain rfl : j = 3 := by omega
         have HQ := Lib.hid hq; obtain ⟨x0, x1⟩ := box_cells hq.2.1; clear hq; generalize hu : stepS k t 3 = u at *; have HU := Lib.hid hu
         have hu0 : 0 ≤ u.1 ∧ 0 ≤ u.2.1 ∧ 0 ≤ u.2.2 := by
           rw [← hu]; exact ⟨(sbox_word _ _ _).1, (sbox_word _ _ _).1, (sbox_word _ _ _).1⟩
         clear hu; go_wp2_with fail
         refine (mix_big u.1 u.2.1 u.2.2 hu0.1 hu0.2.1 hu0.2.2 _).mono ?_
         rintro e w3 ⟨rfl, hb3⟩; have h3 := HQ.out.next hb3; clear x0 x1; obtain ⟨x0, x1⟩ := box_cells h3.2.1; have HN := Lib.hid (PermAt.store h3 (mixS (u.1, u.2.1, u.2.2))); clear h3; go_wp2_with fail
         go_roundw
         case rel => exact ⟨k + 1, by omega, by go_num, by rw [hsucc.out]; exact HN.out⟩
         case measure => simp [intOf]; omega
   · obtain rfl : k = 8 := by omega
     obtain ⟨h1, h2, h3, h4⟩ := hp; obtain ⟨x0, x1⟩ := box_cells h2; obtain ⟨y0, y1⟩ := box_cells h3; have hpe : Hid (permS s = permTo s 8) := rfl; generalize permTo s 8 = t at *; obtain ⟨r0, r1, r2⟩ := read3 (x := .int .u64 t.1) (y := .int .u64 t.2.1) (z := .int .u64 t.2.2) (y0 0) (y0 1) (y0 2); go_wp2_with fail
     refine bodyPost_ret (v := .agg #[.int .u64 t.1, .int .u64 t.2.1, .int .u64 t.2.2]) (by simp [results, Tryz.results73, go_sem, r0, r1, r2]) rfl ⟨by rw [hpe.out], ?_⟩
     exact ((h1.setCell (Nat.le_succ _) _).setCell (Nat.le_succ _) _).setCell (Nat.le_succ _) _
end Go.Proofs.YtphacfkcifpobaaGreatDoor
/- The sponge at the big prime: absorb, Hash. -/
namespace Go.Proofs.YtphacfkcifpobaaGreatDoor
open Go.ChangeShapes Go.WideShapes Go.ChangeAt Go.RowKit Go.Sort
def AbsAt (w : World) (q : Nat) (s : T3) (wr : World) : Prop :=
 Below w.heap.size w wr ∧ wr.heap[w.heap.size]? = some (.cells #[.int .u64 0, .int .u64 0, .int .u64 0] 118 (0, 0)) ∧ wr.heap[w.heap.size + 1]? = some (.cells #[.int .u64 18446744069414584321] 117 (0, 0)) ∧
   wr.heap[q]? = some (.cells #[.int .u64 s.1, .int .u64 s.2.1, .int .u64 s.2.2] 118 (0, 0)) ∧ w.heap.size + 1 < q
theorem AbsAt.next {w w1 w2 : World} {q : Nat} {s : T3} (h : AbsAt w q s w1) (hb : Below w1.heap.size w1 w2) : AbsAt w q s w2 :=
 ⟨bnext h.1 hb, box_after hb h.2.1, box_after hb h.2.2.1, box_after hb h.2.2.2.1, h.2.2.2.2⟩
theorem AbsAt.store {w wr : World} {q : Nat} {s : T3} (h : AbsAt w q s wr) (t : T3) : AbsAt w q t (((wr.setCell ⟨q, 0, none⟩ (.int .u64 t.1)).setCell ⟨q, 1, none⟩ (.int .u64 t.2.1)).setCell ⟨q, 2, none⟩ (.int .u64 t.2.2)) := by
 obtain ⟨h1, h2, h3, h4, h5⟩ := h
 have e0 : w.heap.size ≠ q := by omega
 have e1 : w.heap.size + 1 ≠ q := by omega
 have hq : w.heap.size ≤ q := by omega
 exact ⟨((h1.setCell hq _).setCell hq _).setCell hq _, box_set_far (box_set_far (box_set_far h2 e0) e0) e0, box_set_far (box_set_far (box_set_far h3 e1) e1) e1, box_set (box_set (box_set h4)), h5⟩
theorem AbsAt.one {w wr : World} {q : Nat} {s t : T3} (h : AbsAt w q s wr) (i : Nat) (v : Value) (ht : (#[.int .u64 s.1, .int .u64 s.2.1, .int .u64 s.2.2] : Array Value).setIfInBounds i v = #[.int .u64 t.1, .int .u64 t.2.1, .int .u64 t.2.2]) : AbsAt w q t (wr.setCell ⟨q, i, none⟩ v) := by
 obtain ⟨h1, h2, h3, h4, h5⟩ := h
 have e0 : w.heap.size ≠ q := by omega
 have e1 : w.heap.size + 1 ≠ q := by omega
 exact ⟨h1.setCell (by show w.heap.size ≤ q; omega) _, box_set_far h2 e0, box_set_far h3 e1, ht ▸ box_set h4, h5⟩
theorem AbsAt.start {w wq : World} {a b : Obj} {v0 v1 v2 : Int} (ha : a = .cells #[.int .u64 0, .int .u64 0, .int .u64 0] 118) (hb : b = .cells #[.int .u64 18446744069414584321] 117)
   (h : Below ((w.alloc a).alloc b).heap.size ((w.alloc a).alloc b) wq) : AbsAt w wq.heap.size (v0, v1, v2) (wq.alloc (.cells #[.int .u64 v0, .int .u64 v1, .int .u64 v2] 118)) := by
 subst ha hb; have e1 : (w.alloc (.cells #[.int .u64 0, .int .u64 0, .int .u64 0] 118)).heap.size = w.heap.size + 1 := World.size_alloc ..; have q1 := box_old (o' := .cells #[.int .u64 18446744069414584321] 117) (box_new w (.cells #[.int .u64 0, .int .u64 0, .int .u64 0] 118)); have q2 := box_new (w.alloc (.cells #[.int .u64 0, .int .u64 0, .int .u64 0] 118)) (.cells #[.int .u64 18446744069414584321] 117); rw [e1] at q2; have hz := h.size; rw [World.size_alloc, e1] at hz
 exact ⟨bnew (bnext (bnew (bnew (Below.refl _ _) _) _) h) _, box_old (box_after h q1), box_old (box_after h q2), box_new _ _, by omega⟩
abbrev AbsS (w w' : World) : Prop :=
 Below w.heap.size w w' ∧ w.heap.size + 1 < w'.heap.size ∧ (∀ o, w'.cell? ⟨w.heap.size + 1, o, none⟩ = (#[.int .u64 18446744069414584321] : Array Value)[o]?) ∧
   w'.heap[w.heap.size]? = some (.cells #[.int .u64 0, .int .u64 0, .int .u64 0] 118 (0, 0)) ∧ w'.heap[w.heap.size + 1]? = some (.cells #[.int .u64 18446744069414584321] 117 (0, 0))
theorem AbsS.of {w w' : World} (h1 : Below w.heap.size w w') (h2 : w'.heap[w.heap.size]? = some (.cells #[.int .u64 0, .int .u64 0, .int .u64 0] 118 (0, 0))) (h3 : w'.heap[w.heap.size + 1]? = some (.cells #[.int .u64 18446744069414584321] 117 (0, 0))) : AbsS w w' :=
 ⟨h1, box_lt h3, (box_cells h3).1, h2, h3⟩
theorem AbsS.start (w : World) : AbsS w ((w.alloc (.cells #[.int .u64 0, .int .u64 0, .int .u64 0] 118)).alloc (.cells #[.int .u64 18446744069414584321] 117)) := by
 have e1 : (w.alloc (.cells #[.int .u64 0, .int .u64 0, .int .u64 0] 118)).heap.size = w.heap.size + 1 := World.size_alloc ..; have q1 := box_old (o' := .cells #[.int .u64 18446744069414584321] 117) (box_new w (.cells #[.int .u64 0, .int .u64 0, .int .u64 0] 118)); have q2 := box_new (w.alloc (.cells #[.int .u64 0, .int .u64 0, .int .u64 0] 118)) (.cells #[.int .u64 18446744069414584321] 117); rw [e1] at q2
 exact AbsS.of (bnew (bnew (Below.refl _ _) _) _) q1 q2
theorem AbsS.drew {w w' : World} (h : AbsS w w') : AbsS w w'.drew := ⟨h.1.drew, h.2.1, h.2.2.1, h.2.2.2.1, h.2.2.2.2⟩
theorem AbsS.next {w w1 w2 : World} (h : AbsS w w1) (hb : Below w1.heap.size w1 w2) : AbsS w w2 := AbsS.of (bnext h.1 hb) (box_after hb h.2.2.2.1) (box_after hb h.2.2.2.2)
theorem AbsS.alloc {w w1 : World} (h : AbsS w w1) (o : Obj) : AbsS w (w1.alloc o) := h.next (bnew (Below.refl _ _) o)
theorem AbsS.store {w w1 : World} (h : AbsS w w1) {q : Nat} (hq : w.heap.size + 1 < q) (x y z : Value) : AbsS w (((w1.setCell ⟨q, 0, none⟩ x).setCell ⟨q, 1, none⟩ y).setCell ⟨q, 2, none⟩ z) := by
 obtain ⟨h1, h2, h3, h4, h5⟩ := h
 have e0 : w.heap.size ≠ q := by omega
 have e1 : w.heap.size + 1 ≠ q := by omega
 have hl : w.heap.size ≤ q := by omega
 exact AbsS.of (((h1.setCell hl _).setCell hl _).setCell hl _) (box_set_far (box_set_far (box_set_far h4 e0) e0) e0) (box_set_far (box_set_far (box_set_far h5 e1) e1) e1)
set_option maxHeartbeats 4000000 in
theorem absorb_big (label : Int) (hl0 : 0 ≤ label) (S : Nat → Prop) (w : World) (a : Option Addr) (cap : Nat) (l : List Int) (h : numsR.rel S w [.slice a l.length cap] l) (hlen : l.length ≤ 1000000) :
   Calls Tryz.prog 43 #[.int .u64 18446744069414584321, .int .u64 label, .slice a l.length cap] w
     fun e w' => e = .returned (.agg #[.int .u64 (absorbS label l).1, .int .u64 (absorbS label l).2.1, .int .u64 (absorbS label l).2.2]) ∧ Below w.heap.size w w' := by
 have H := Lib.hid h; clear h; have m0 := mulP_in label 65536
 have l0 : (0 : Int) ≤ l.length := by omega
 have hwr : IntKind.u64.wrap (l.length : Int) = l.length := by rw [IntKind.wrap_u64]; omega
 have hst := AbsS.start w
 go_enter Tryz.func43, Tryz.ntmps43
 go_wp2_with fail
 go_cut [8] from 10 (fun v8 wc => ∃ q, v8 = .pointer (some ⟨q, 0, none⟩) ∧ AbsAt w q (absStart label l.length) wc)
 case first =>
   generalize (w.alloc (.cells #[.int .u64 0, .int .u64 0, .int .u64 0] 118)).alloc (.cells #[.int .u64 18446744069414584321] 117) = W at hst ⊢; have hzW := hst.2.1; have HST := Lib.hid hst; clear hst
   go_region_held3 (fun w' => Below w.heap.size w w' ∧ w.heap.size + 1 < w'.heap.size ∧ (∀ o, w'.cell? ⟨w.heap.size + 1, o, none⟩ = (#[.int .u64 18446744069414584321] : Array Value)[o]?) ∧
   w'.heap[w.heap.size]? = some (.cells #[.int .u64 0, .int .u64 0, .int .u64 0] 118 (0, 0)) ∧ w'.heap[w.heap.size + 1]? = some (.cells #[.int .u64 18446744069414584321] 117 (0, 0)))
     (first
       | with_reducible exact AbsS.drew HST.out
       | with_reducible exact HMM.out
       | with_reducible exact HMA.out
       | with_reducible exact AbsS.alloc HMA.out _
       | with_reducible exact AbsS.alloc HMM.out _
       | with_reducible exact AbsS.drew (AbsS.alloc HST.out _)
       | with_reducible exact AbsS.store HMA.out hzW _ _ _
       | with_reducible exact AbsS.store HMA.out hzM _ _ _)
     (first
       | (go_at_call 72; refine (Mul_big label 65536 hl0 (by omega) _).mono ?_; rintro e w2 ⟨rfl, hbM⟩
          have HMM := Lib.hid (AbsS.next (‹Below w.heap.size w _ ∧ _ < _ ∧ _› : AbsS w _) hbM); have hzM := HMM.out.2.1)
       | (go_at_call_of 71 (Value.int IntKind.u64 (l.length : Int)); refine (Add_big (mulP label 65536) l.length m0.1 l0 _).mono ?_; rintro e w3 ⟨rfl, hbA⟩
          have HMA := Lib.hid (AbsS.next (‹Below w.heap.size w _ ∧ _ < _ ∧ _› : AbsS w _) hbA)
          first
            | (have hqA : w3.heap[W.heap.size]? = _ := box_after hbA (box_after hbM (box_new W (.cells #[.int .u64 0, .int .u64 0, .int .u64 0] 118))); obtain ⟨k0, k1⟩ := box_cells hqA; have HQ := Lib.hid hqA; clear hqA)
            | (have hqA : w3.heap[w2.heap.size]? = _ := box_after hbA (box_new w2 _); obtain ⟨k0, k1⟩ := box_cells hqA; have HQ := Lib.hid hqA; clear hqA)
            | have hzA := HMA.out.2.1))
   · go_wp2_with fail
     go_meet
     case rel => exact ⟨w3.heap.size, rfl, HMA.out.1.new _, box_old HMA.out.2.2.2.1, box_old HMA.out.2.2.2.2, box_new _ _, hzA⟩
   · have hh := AbsS.store HMA.out hzM (.int .u64 0) (.int .u64 0) (.int .u64 (addP (mulP label 65536) l.length))
     have HN := Lib.hid hh; clear hh; go_wp2_with fail
     go_meet
     case rel => exact ⟨w2.heap.size, rfl, HN.out.1, HN.out.2.2.2.1, HN.out.2.2.2.2, box_set (box_set (box_set HQ.out)), hzM⟩
   · have hh := AbsS.store HMA.out hzW (.int .u64 0) (.int .u64 0) (.int .u64 (addP (mulP label 65536) l.length))
     have HN := Lib.hid hh; clear hh; go_wp2_with fail
     go_meet
     case rel => exact ⟨W.heap.size, rfl, HN.out.1, HN.out.2.2.2.1, HN.out.2.2.2.2, box_set (box_set (box_set HQ.out)), hzW⟩
 case rest =>
   obtain ⟨q, rfl, hq⟩ := hcut; clear hst m0 l0 hwr; have HSW := Lib.hid (absStart_words label l.length); have HQ := Lib.hid hq; obtain ⟨x0, x1⟩ := box_cells hq.2.2.2.1; clear hq
   by_cases hl0' : l.length = 0
   · have HR : Hid (absorbS label l = permS (absStart label l.length)) := by show _ = _; unfold absorbS; rw [if_pos hl0', hl0']
     generalize absStart label l.length = s at *; go_wp2_with fail
     refine (permute_big s HSW.out _).mono ?_
     rintro e w3 ⟨rfl, hb3⟩; have h3 := HQ.out.next hb3; have HB := Lib.hid h3.1; obtain ⟨y0, y1⟩ := box_cells h3.2.1; clear h3; generalize permS s = t at *; obtain ⟨r0, r1, r2⟩ := read3 (x := .int .u64 t.1) (y := .int .u64 t.2.1) (z := .int .u64 t.2.2) (y0 0) (y0 1) (y0 2); go_wp2_with fail
     refine bodyPost_ret (v := .agg #[.int .u64 t.1, .int .u64 t.2.1, .int .u64 t.2.2]) (by simp [results, Tryz.results43, go_sem, r0, r1, r2]) rfl ⟨by rw [HR.out], ?_⟩
     exact ((HB.out.setCell (Nat.le_refl _) _).setCell (Nat.le_refl _) _).setCell (Nat.le_refl _) _
   · have HT : Hid (absorbS label l = absLoop (absStart label l.length) l) := by show _ = _; unfold absorbS; rw [if_neg hl0']
     generalize absStart label l.length = s0 at *; clear x0 x1
     have hne : ((l.length : Int) == 0) = false := by rw [beq_eq_false_iff_ne]; omega
     go_wp2_with fail
     go_loopw [9] (fun vi wr => ∃ (i : Nat) (s : T3), i ≤ l.length + 1 ∧ vi = .int .i64 i ∧ Words3 s ∧ AbsAt w q s wr ∧ Hid (absLoop s (l.drop i) = absLoop s0 l)) (fun vi _ => l.length + 2 - (intOf vi).toNat)
     case atStart => exact ⟨0, s0, by omega, rfl, HSW.out, HQ.out, rfl⟩
     case round =>
       obtain ⟨i, s, hi, rfl, hws, hat, hinv⟩ := hrel
       by_cases hlt : i < l.length
       · obtain ⟨b, off, rfl, hbl, e0, en, hc⟩ := nums_at H.out i hlt
         have sn : 0 ≤ s.1 := by unfold Words3 at hws; omega
         have sm : 0 ≤ s.2.1 := by unfold Words3 at hws; omega
         have i0 : (0 : Int) ≤ (i : Int) := by omega
         have i1 : (i : Int) < (l.length : Int) := by omega
         have sa := addP_word s.1 l[i]
         by_cases hlt2 : i + 1 < l.length
         · have HS := Lib.hid (absLoop_two s l i hlt2)
           obtain ⟨b2, off2, hbo, hbl2, f0, fn, hc2⟩ := nums_at H.out (i + 1) hlt2
           simp at hbo
           obtain ⟨rfl, rfl⟩ := hbo; have HC2 := Lib.hid hc2; clear hc2
           have i2 : (i : Int) + 1 < (l.length : Int) := by omega
           have i3 : (0 : Int) ≤ (i : Int) + 1 := by omega
           have i4 : ((i : Int) + 1).toNat = i + 1 := by omega
           have hw1 : IntKind.i64.wrap ((i : Int) + 1) = (i : Int) + 1 := by rw [IntKind.wrap_i64]; omega
           have sb := addP_word s.2.1 l[i + 1]; generalize l[i] = m at *; generalize l[i + 1] = m2 at *
           have HI : Hid (absLoop (permS (addP s.1 m, addP s.2.1 m2, s.2.2)) (l.drop (i + 2)) = absLoop s0 l) := by show _ = _; rw [← HS.out, hinv.out]
           have NW : Hid (Words3 (addP s.1 m, addP s.2.1 m2, s.2.2)) := by unfold Words3 at hws; exact ⟨sa, sb, hws.2.2⟩
           have HAT := Lib.hid hat; have hci := (hat.1.cell (p := ⟨b, off + i, none⟩) hbl).trans hc; have x0 := box_regrown hat.2.2.1; have y0 := box_regrown hat.2.2.2.1; have z0 := cell_in hci; clear hat hci; go_wp2_with fail
           refine wp_region_quiet_tail 9 (by kernel_rfl) (by kernel_rfl) ?_
           simp only [List.take_succ_cons, List.take_zero, List.drop_succ_cons, List.drop_zero]
           repeat (first | go_big_quiet_step (exact Calls.regrown_of (Add_big s.1 m sn e0 _)) | quiet_step (exact Calls.regrown_of (Add_big s.1 m sn e0 _)))
           refine wpQuiet_nil ?_
           intro wq hw'
           obtain ⟨⟨dq, osq⟩, hw''⟩ := hw'; have hbq := below_regrown wr dq osq; rw [← hw''] at hbq; clear hw'' x0 y0 z0; have p1 := HAT.out.next hbq; obtain ⟨c0, c1⟩ := box_cells p1.2.2.2.1; have P2 := Lib.hid (AbsAt.one (t := (addP s.1 m, s.2.1, s.2.2)) p1 0 (.int .u64 (addP s.1 m)) rfl); clear p1; go_wp2_with fail; generalize wq.setCell ⟨q, 0, none⟩ (.int .u64 (addP s.1 m)) = wx at P2 ⊢; clear c0 c1; have hcx := (P2.out.1.cell (p := ⟨b, off + (i + 1), none⟩) hbl2).trans HC2.out; have x0 := box_regrown P2.out.2.2.1; have y0 := box_regrown P2.out.2.2.2.1; have z0 := cell_in hcx; clear hcx
           refine wp_region_quiet_tail 10 (by kernel_rfl) (by kernel_rfl) ?_
           simp only [List.take_succ_cons, List.take_zero, List.drop_succ_cons, List.drop_zero]
           repeat (first | go_big_quiet_step (exact Calls.regrown_of (Add_big s.2.1 m2 sm f0 _)) | quiet_step (exact Calls.regrown_of (Add_big s.2.1 m2 sm f0 _)))
           refine wpQuiet_nil ?_
           intro wq2 hw'
           obtain ⟨⟨dq2, osq2⟩, hw''⟩ := hw'; have hbq2 := below_regrown wx dq2 osq2; rw [← hw''] at hbq2; clear hw'' x0 y0 z0; have p1 := P2.out.next hbq2; obtain ⟨c0, c1⟩ := box_cells p1.2.2.2.1; have PX := Lib.hid (AbsAt.one (t := (addP s.1 m, addP s.2.1 m2, s.2.2)) p1 1 (.int .u64 (addP s.2.1 m2)) rfl); clear p1; go_wp2_with fail
           refine (permute_big (addP s.1 m, addP s.2.1 m2, s.2.2) NW.out _).mono ?_
           rintro e w5 ⟨rfl, hb5⟩; have p5 := PX.out.next hb5; clear c0 c1; obtain ⟨c0, c1⟩ := box_cells p5.2.2.2.1; have HN := Lib.hid (AbsAt.store p5 (permS (addP s.1 m, addP s.2.1 m2, s.2.2))); clear p5; go_wp2_with fail
           go_roundw
           case rel => exact ⟨i + 2, permS (addP s.1 m, addP s.2.1 m2, s.2.2), by omega, by go_num, permS_words _, HN.out, HI⟩
           case measure => simp [intOf]; omega
         · have HS := Lib.hid (absLoop_one s l i hlt (by omega))
           generalize l[i] = m at *
           have i2 : ¬ ((i : Int) + 1 < (l.length : Int)) := by omega
           have HI : Hid (absLoop (permS (addP s.1 m, s.2.1, s.2.2)) (l.drop (i + 2)) = absLoop s0 l) := by
             show _ = _
             rw [← hinv.out, HS.out, List.drop_of_length_le (by omega)]; rfl
           have NW : Hid (Words3 (addP s.1 m, s.2.1, s.2.2)) := by unfold Words3 at hws; exact ⟨sa, hws.2.1, hws.2.2⟩
           have HAT := Lib.hid hat; have hci := (hat.1.cell (p := ⟨b, off + i, none⟩) hbl).trans hc; have x0 := box_regrown hat.2.2.1; have y0 := box_regrown hat.2.2.2.1; have z0 := cell_in hci; clear hat hci; go_wp2_with fail
           refine wp_region_quiet_tail 9 (by kernel_rfl) (by kernel_rfl) ?_
           simp only [List.take_succ_cons, List.take_zero, List.drop_succ_cons, List.drop_zero]
           repeat (first | go_big_quiet_step (exact Calls.regrown_of (Add_big s.1 m sn e0 _)) | quiet_step (exact Calls.regrown_of (Add_big s.1 m sn e0 _)))
           refine wpQuiet_nil ?_
           intro wq hw'
           obtain ⟨⟨dq, osq⟩, hw''⟩ := hw'; have hbq := below_regrown wr dq osq; rw [← hw''] at hbq; clear hw'' x0 y0 z0; have p1 := HAT.out.next hbq; obtain ⟨c0, c1⟩ := box_cells p1.2.2.2.1; have PX := Lib.hid (AbsAt.one (t := (addP s.1 m, s.2.1, s.2.2)) p1 0 (.int .u64 (addP s.1 m)) rfl); clear p1; go_wp2_with fail
           refine (permute_big (addP s.1 m, s.2.1, s.2.2) NW.out _).mono ?_
           rintro e w5 ⟨rfl, hb5⟩; have p5 := PX.out.next hb5; clear c0 c1; obtain ⟨c0, c1⟩ := box_cells p5.2.2.2.1; have HN := Lib.hid (AbsAt.store p5 (permS (addP s.1 m, s.2.1, s.2.2))); clear p5; go_wp2_with fail
           go_roundw
           case rel => exact ⟨i + 2, permS (addP s.1 m, s.2.1, s.2.2), by omega, by go_num, permS_words _, HN.out, HI⟩
           case measure => simp [intOf]; omega
       · have HE : Hid (absorbS label l = s) := by
           show _ = _
           rw [HT.out, ← hinv.out, List.drop_of_length_le (by omega)]; rfl
         have HB := Lib.hid hat.1; obtain ⟨y0, y1⟩ := box_cells hat.2.1; obtain ⟨z0, z1⟩ := box_cells hat.2.2.2.1; clear hat; obtain ⟨r0, r1, r2⟩ := read3 (x := .int .u64 s.1) (y := .int .u64 s.2.1) (z := .int .u64 s.2.2) (y0 0) (y0 1) (y0 2); go_wp2_with fail
         refine bodyPost_ret (v := .agg #[.int .u64 s.1, .int .u64 s.2.1, .int .u64 s.2.2]) (by simp [results, Tryz.results43, go_sem, r0, r1, r2]) rfl ⟨by rw [HE.out], ?_⟩
         exact ((HB.out.setCell (Nat.le_refl _) _).setCell (Nat.le_refl _) _).setCell (Nat.le_refl _) _
theorem index3 (x y z : Int) (w : World) : (Instr.index 118 (.agg #[.int .u64 x, .int .u64 y, .int .u64 z]) (.int .i64 0)).run Tryz.prog w = .ok (.int .u64 x) w := by
 have hs : (Tryz.prog.info? 24).map (·.size) = some 1 := by kernel_rfl
 obtain ⟨i, hi, hz⟩ := Option.map_eq_some_iff.1 hs
 simp [Instr.index, asIntOf, run_underlying Tryz.underlying118, sizeOf, typeInfo, hi, hz, part, go_sem]
set_option maxHeartbeats 400000 in
theorem Hash_big (label : Int) (hl0 : 0 ≤ label) (S : Nat → Prop) (w : World) (a : Option Addr) (cap : Nat) (l : List Int) (h : numsR.rel S w [.slice a l.length cap] l) (hlen : l.length ≤ 1000000) :
   Calls Tryz.prog 28 #[.int .u64 18446744069414584321, .int .u64 label, .slice a l.length cap] w fun e w' => e = .returned (.int .u64 (hashS label l)) ∧ Below w.heap.size w w' := by
 have HH : Hid (hashS label l = (absorbS label l).1) := rfl
 go_enter Tryz.func28, Tryz.ntmps28
 go_wp2_with fail
 refine (valid_big _).mono ?_
 rintro e w1 ⟨rfl, hb1⟩; go_wp2_with fail
 refine (absorb_big label hl0 S w1 a cap l (numsR.keepB h hb1) hlen).mono ?_
 rintro e w2 ⟨rfl, hb2⟩; generalize absorbS label l = t at *; have hix := index3 t.1 t.2.1 t.2.2; go_wp2_with fail; go_ret
 exact ⟨ret_int HH.out.symm, bnext hb1 hb2⟩
end Go.Proofs.YtphacfkcifpobaaGreatDoor
/- The wire's writers: what they append. -/
namespace Go.Proofs.YtphacfkcifpobaaGreatDoor
open Go.ChangeShapes Go.WideShapes Go.ChangeAt Go.RowKit
set_option maxHeartbeats 1000000 in
theorem room_any (S : Nat → Prop) (w : World) (a : Option Addr) (cap : Nat) (xs : List Int) (h : bytesR.rel S w [.slice a xs.length cap] xs) (n : Nat) (hx : xs.length + n ≤ 1000000000) :
   Calls Tryz.prog 45 #[.slice a xs.length cap, .int .i64 n] w (GrewTo w.heap.size w xs) := by
 have hxl : xs.length ≤ 1000000000 := by omega
 have H := Lib.hid h; clear h; obtain ⟨cs, hcs⟩ : ∃ cs, cs = xs.map (Value.int .u8) := ⟨_, rfl⟩; have HC := Lib.hid hcs
 have hcl : cs.length = xs.length := by rw [hcs]; simp
 have HL := Lib.hid hcl; clear hcs hcl
 go_enter Tryz.func45, Tryz.ntmps45
 go_wp2_with (at_make; refine wpList_make_lc rfl _ _ rfl Tryz.etyBytes (n := xs.length) (m := xs.length + n) rfl rfl ?_ ?_ ?_ ?_ ?_ ?_)
 · go_num
 · go_num
 · omega
 · omega
 · unfold maxLen; omega
 intro cur hcur w1 hg1 hb1 hz1
 have HG := Lib.hid hg1; have HCU := Lib.hid hcur; clear hg1 hcur
 go_wp2_with (refine wpList_copy_splice rfl (.tmp 13) (.tmp 14) 49 49 rfl 5 Tryz.underlying49 (by kernel_rfl) _ _ _ _ _ _ rfl rfl w.heap.size 0 cur 5 HG.out cs ?_ ?_ ?_ ?_ w.heap.size w hb1 (Nat.le_refl _) ?_)
 · rw [HL.out]; simp
 · intro h0
   rw [HL.out] at h0; obtain ⟨ad, had, hc⟩ := ints_cells (bytesR.keepB H.out hb1) h0
   have hc' : ∀ j v, cs[j]? = some v → w1.cell? (ad.add j) = some v := fun j v hj => hc j v (by rw [← HC.out]; exact hj)
   exact ⟨ad, had, hc'⟩
 · rw [HL.out, HCU.out]; omega
 · intro v hv
   rw [HC.out] at hv; obtain ⟨x, -, rfl⟩ := List.mem_map.1 hv
   rfl
 intro w2 HG2 hb2
 have hfin : Own u8R w.heap.size 5 (fun x => False ∨ w.heap.size ≤ x) w2 (.slice (some ⟨w.heap.size, 0, none⟩) xs.length (xs.length + n)) xs := by
   refine own_ints HG2.out ?_ ?_ (ints_wf H.out) (by omega) (by unfold maxLen; omega) (Nat.le_refl _)
   · rw [length_splice _ _ _ (by rw [HL.out, HCU.out]; omega), HCU.out]
   · unfold splice
     rw [List.take_zero, List.nil_append, ← HC.out]
     exact List.take_left' HL.out
 go_wp2_with fail; go_ret
 exact ⟨_, rfl, hfin, hb2⟩
abbrev GivesB (ys : List Int) (w : World) : Ending → World → Prop := GivesS u8R (fun _ => True) ys w
theorem GrewTo.gives {B : Nat} {w w' : World} {ys : List Int} {e : Ending} (hB : B = w.heap.size) (h : GrewTo B w ys e w') : GivesB ys w e w' := by
 subst hB; obtain ⟨v, rfl, ho, hb⟩ := h
 exact GivesS.mk (bytesR.mono ho.slice fun _ _ _ => trivial) hb
theorem appendLength_any (w0 w : World) (B : Nat) (hb : Below B w0 w) (hB0 : B ≤ w0.heap.size) (v : Value) (xs : List Int) (ho : Own u8R B 5 (fun x => False ∨ B ≤ x) w v xs) (n : Nat) (hn : n ≤ 4294967295)
   (hl : xs.length ≤ 1000000000) : Calls Tryz.prog 44 #[v, .int .i64 n] w (GrewTo B w0 (xs ++ digs 4 n)) := by
 go_enter Tryz.func44, Tryz.ntmps44
 go_wp2_with fail
 refine (appendDigits_any w0 w B hb hB0 v xs ho n (by omega) (by omega) 4 (by omega) hl).mono ?_
 rintro e w1 ⟨v', rfl, ho', hb'⟩; go_wp2_with fail; go_ret
 exact ⟨v', rfl, ho', hb'⟩
theorem Uint_any (S : Nat → Prop) (w : World) (a : Option Addr) (cap : Nat) (xs : List Int) (h : bytesR.rel S w [.slice a xs.length cap] xs) (n : Int) (n0 : 0 ≤ n) (n1 : n < 18446744073709551616) (hx : xs.length ≤ 100000000) :
   Calls Tryz.prog 32 #[.slice a xs.length cap, .int .u64 n] w (GivesB (xs ++ digs 8 n) w) := by
 go_enter Tryz.func32, Tryz.ntmps32
 go_wp2_with fail
 refine (room_any S w a cap xs h 8 (by omega)).mono ?_
 rintro e w1 ⟨v, rfl, ho, hb⟩; go_wp2_with fail
 refine (appendDigits_any w w1 w.heap.size hb (Nat.le_refl _) v xs ho n n0 n1 8 (by omega) (by omega)).mono ?_
 intro e w2 hg
 have HG := Lib.hid (GrewTo.gives rfl hg); obtain ⟨v', rfl, -, -⟩ := hg; go_wp2_with fail; go_ret
 exact HG.out
theorem Int_any (S : Nat → Prop) (w : World) (a : Option Addr) (cap : Nat) (xs : List Int) (h : bytesR.rel S w [.slice a xs.length cap] xs) (n : Nat) (n1 : n ≤ 4294967295) (hx : xs.length ≤ 100000000) :
   Calls Tryz.prog 29 #[.slice a xs.length cap, .int .i64 n] w (GivesB (xs ++ digs 4 n) w) := by
 go_enter Tryz.func29, Tryz.ntmps29
 go_wp2_with fail
 refine (room_any S w a cap xs h 4 (by omega)).mono ?_
 rintro e w1 ⟨v, rfl, ho, hb⟩; go_wp2_with fail
 refine (appendLength_any w w1 w.heap.size hb (Nat.le_refl _) v xs ho n n1 (by omega)).mono ?_
 intro e w2 hg
 have HG := Lib.hid (GrewTo.gives rfl hg); obtain ⟨v', rfl, -, -⟩ := hg; go_wp2_with fail; go_ret
 exact HG.out
def digsAll : List Int → List Int
 | [] => []
 | n :: l => digs 8 n ++ digsAll l
theorem digsAll_len : ∀ l, (digsAll l).length = 8 * l.length
 | [] => rfl
 | n :: l => by simp [digsAll, digs_len, digsAll_len l]; omega
theorem digsAll_snoc : ∀ (l : List Int) (n : Int), digsAll (l ++ [n]) = digsAll l ++ digs 8 n
 | [], n => by simp [digsAll]
 | x :: l, n => by simp [digsAll, digsAll_snoc l n]
set_option maxHeartbeats 1000000 in
theorem List_any (S S' : Nat → Prop) (w : World) (a : Option Addr) (cap : Nat) (xs : List Int) (h : bytesR.rel S w [.slice a xs.length cap] xs) (la : Option Addr) (lc : Nat) (l : List Int) (hl : numsR.rel S' w [.slice la l.length lc] l) (hx : xs.length ≤ 100000000) (hll : l.length ≤ 10000000) :
   Calls Tryz.prog 30 #[.slice a xs.length cap, .slice la l.length lc] w (GivesB (xs ++ digs 4 l.length ++ digsAll l) w) := by
 have HL := Lib.hid hl; clear hl
 go_enter Tryz.func30, Tryz.ntmps30
 go_wp2_with fail
 refine (room_any S w a cap xs h (4 + 8 * l.length) (by omega)).mono ?_
 rintro e w1 ⟨v, rfl, ho, hb⟩; go_wp2_with fail
 refine (appendLength_any w w1 w.heap.size hb (Nat.le_refl _) v xs ho l.length (by omega) (by omega)).mono ?_
 rintro e w2 ⟨v2, rfl, ho2, hb2⟩; have HO2 := Lib.hid ho2; clear ho ho2; go_wp2_with fail
 go_loopw [5, 19] (fun vb vi wr => ∃ k : Nat, k ≤ l.length ∧ vi = .int .i64 k ∧ Own u8R w.heap.size 5 (fun x => False ∨ w.heap.size ≤ x) wr vb (xs ++ digs 4 l.length ++ digsAll (l.take k)) ∧ Below w.heap.size w wr) (fun _ vi _ => l.length - (intOf vi).toNat)
 case atStart => exact ⟨0, Nat.zero_le _, rfl, by simpa [digsAll] using HO2.out, hb2⟩
 case round =>
   obtain ⟨k, hk, rfl, hor, hbr⟩ := hrel
   by_cases hlt : k < l.length
   · obtain ⟨b, off, rfl, hbl, n0, n1, hc⟩ := nums_at (numsR.keepB HL.out hbr) k hlt
     have HS : Hid (xs ++ digs 4 l.length ++ digsAll (l.take (k + 1)) = (xs ++ digs 4 l.length ++ digsAll (l.take k)) ++ digs 8 l[k]) := by
       show _ = _
       rw [List.take_succ_eq_append_getElem hlt, digsAll_snoc]; simp only [List.append_assoc]
     have hln : (xs ++ digs 4 l.length ++ digsAll (l.take k)).length ≤ 1000000000 := by
       simp only [List.length_append, digs_len, digsAll_len, List.length_take]; omega
     generalize l[k] = n at *; generalize xs ++ digs 4 l.length ++ digsAll (l.take k) = ys at *; go_wp2_with fail
     refine (appendDigits_any w wr w.heap.size hbr (Nat.le_refl _) _ ys hor n n0 n1 8 (by omega) hln).mono ?_
     rintro e w3 ⟨v3, rfl, ho3, hb3⟩; go_wp2_with fail
     go_roundw
     case rel => exact ⟨k + 1, by omega, by go_num, by rw [HS.out]; exact ho3, hb3⟩
     case measure => simp [intOf]; omega
   · obtain rfl : k = l.length := by omega
     rw [List.take_length] at hor
     have HG := Lib.hid (GivesS.mk (bytesR.mono hor.slice fun _ _ _ => trivial) hbr)
     go_wp2_with fail; go_ret
     exact HG.out
set_option maxHeartbeats 1000000 in
theorem Bytes_any (S S' : Nat → Prop) (w : World) (a : Option Addr) (cap : Nat) (xs : List Int) (h : bytesR.rel S w [.slice a xs.length cap] xs) (la : Option Addr) (lc : Nat) (l : List Int) (hl : bytesR.rel S' w [.slice la l.length lc] l) (hx : xs.length ≤ 100000000) (hll : l.length ≤ 10000000) :
   Calls Tryz.prog 143 #[.slice a xs.length cap, .slice la l.length lc] w (GivesB (xs ++ (digs 4 l.length ++ l)) w) := by
 have HL := Lib.hid hl; clear hl
 go_enter Tryz.func143, Tryz.ntmps143
 go_wp2_with fail
 refine (room_any S w a cap xs h (4 + l.length) (by omega)).mono ?_
 rintro e w1 ⟨v, rfl, ho, hb⟩; go_wp2_with fail
 refine (appendLength_any w w1 w.heap.size hb (Nat.le_refl _) v xs ho l.length (by omega) (by omega)).mono ?_
 rintro e w2 ⟨v2, rfl, ho2, hb2⟩; have HO2 := Lib.hid ho2
 have HL2 := Lib.hid (Src.plain (S' := fun _ => False) (Plain.int .u8) (Src.of_slice (bytesR.keepB HL.out hb2)))
 have hln : (xs ++ digs 4 l.length).length + l.length ≤ 1000000000 := by simp only [List.length_append, digs_len]; omega
 clear ho ho2
 go_wp2_with (at_builtin; refine wpList_append_rel (r := u8R) (base := w.heap.size) rfl _ _ rfl Tryz.etyBytes rfl rfl HO2.out HL2.out (fun _ _ h => h.elim) (fun _ _ h => h) (by unfold maxLen; omega) (by omega) hb2.size ?_)
 intro v3 w3 ho3 hk3 _
 have hb3 : Below w.heap.size w w3 := Kept.behind hb2 hk3 hb2.size fun k hk h => by have := (HO2.out.lt h).2.2; omega
 have HG := Lib.hid (GivesS.mk (bytesR.mono ho3.slice fun _ _ _ => trivial) hb3)
 clear ho3; go_wp2_with fail; go_ret
 exact HG.out
end Go.Proofs.YtphacfkcifpobaaGreatDoor
/- Bytes as elements, and their hash: some numbers, some hash. -/
namespace Go.Proofs.YtphacfkcifpobaaGreatDoor
open Go.ChangeShapes Go.WideShapes Go.ChangeAt Go.RowKit
theorem or_in {a b : Int} (a0 : 0 ≤ a) (a1 : a < 18446744073709551616) (b0 : 0 ≤ b) (b1 : b < 18446744073709551616) : 0 ≤ bits BinOp.or IntKind.u64 a b ∧ bits BinOp.or IntKind.u64 a b < 18446744073709551616 := by
 obtain ⟨A, rfl⟩ := Int.eq_ofNat_of_zero_le a0; obtain ⟨B, rfl⟩ := Int.eq_ofNat_of_zero_le b0
 have hA : A < 2 ^ 64 := by omega
 have hB : B < 2 ^ 64 := by omega
 rw [bits_or_u64_nat A B (by omega) (by omega)]
 have := Nat.or_lt_two_pow hA hB
 omega
theorem wrap_in (x : Int) : 0 ≤ IntKind.u64.wrap x ∧ IntKind.u64.wrap x < 18446744073709551616 := by rw [IntKind.wrap_u64]; omega
def SomeN (N : Nat) (w : World) (e : Ending) (w' : World) : Prop := ∃ (ys : List Int) (a : Option Addr) (cap : Nat), ys.length ≤ N ∧ e = .returned (.slice a ys.length cap) ∧ numsR.rel (fun _ => True) w' [.slice a ys.length cap] ys ∧ Below w.heap.size w w'
set_option maxHeartbeats 3000000 in
theorem pack_any (S : Nat → Prop) (w : World) (a : Option Addr) (cap : Nat) (xs : List Int) (h : bytesR.rel S w [.slice a xs.length cap] xs) (hx : xs.length ≤ 100000) :
   Calls Tryz.prog 259 #[.slice a xs.length cap] w (SomeN (xs.length + 2) w) := by
 have H := Lib.hid h; have g1 := (sliceR.lens h).2; unfold maxLen at g1; clear h
 go_enter Tryz.func259, Tryz.ntmps259
 go_wp2_with (at_make; refine wpList_make_lc rfl _ _ rfl Tryz.etyNums (n := 1) (m := 1 + (xs.length + 6) / 7) rfl rfl ?_ ?_ ?_ ?_ ?_ ?_)
 · rfl
 · omega
 · omega
 · omega
 · unfold maxLen; omega
 intro cur hcur w1 hg1 hb1 hz1
 obtain ⟨c0, rest, rfl⟩ : ∃ c0 rest, cur = c0 :: rest := by
   cases cur with
   | nil => exfalso; simp at hcur; omega
   | cons c r => exact ⟨c, r, rfl⟩
 obtain ⟨x0, x1⟩ := box_cells hg1
 have hw : IntKind.u64.wrap (xs.length : Int) = xs.length := by rw [IntKind.wrap_u64]; omega
 have hg2 := box_set (i := 0) (v := .int .u64 (xs.length : Int)) hg1
 have hg3 : (w1.setCell ⟨w.heap.size, 0, none⟩ (.int .u64 (xs.length : Int))).heap[w.heap.size]? = some (.cells ((.int .u64 (xs.length : Int)) :: rest).toArray 24 (0, 0)) := by simpa using hg2
 have hown := own_ints (k := .u64) (base := w.heap.size) (xs := [(xs.length : Int)]) hg3 hcur (by simp) (by intro x hx'; simp at hx'; subst hx'; exact okU_of (by omega) (by omega)) (by simp) (by unfold maxLen; omega) (Nat.le_refl _)
 have hb2 : Below w.heap.size w (w1.setCell ⟨w.heap.size, 0, none⟩ (.int .u64 (xs.length : Int))) := hb1.setCell (Nat.le_refl _) _; have HOWN := Lib.hid hown; have HB2 := Lib.hid hb2; clear hown hb2 hg2 hg3 hg1; go_wp2_with fail; generalize w1.setCell ⟨w.heap.size, 0, none⟩ (.int .u64 (xs.length : Int)) = w2 at *
 go_loopw [3, 4] (fun vr vs wr => ∃ (k : Nat) (ns : List Int), k ≤ xs.length + 7 ∧ vs = .int .i64 k ∧ ns.length ≤ k + 1 ∧ (k ≤ xs.length → ns.length ≤ k + 1) ∧ 7 * ns.length ≤ k + 7 ∧ Own u64R w.heap.size 24 (fun x => False ∨ w.heap.size ≤ x) wr vr ns ∧ Below w.heap.size w wr ∧ w.heap.size ≤ wr.heap.size) (fun _ vs _ => xs.length + 8 - (intOf vs).toNat)
 case atStart => exact ⟨0, [(xs.length : Int)], by omega, rfl, by simp, fun _ => by simp, by simp, by simpa using HOWN.out, HB2.out, HB2.out.size⟩
 case round =>
   obtain ⟨k, ns, hk, rfl, hn1, hn2, hn3, hor, hbr, hsz⟩ := hrel
   by_cases hlt : k < xs.length
   · have hpos : 0 < xs.length := by omega
     obtain ⟨b, off, rfl, -, -, -, -, -⟩ := bytes_at H.out 0 hpos
     by_cases h7 : k + 7 ≤ xs.length
     · have h7i : ¬ ((xs.length : Int) < (k : Int) + 7) := by omega
       have HOR := Lib.hid hor; clear hor; go_wp2_with fail; have hMx : k + 7 ≤ xs.length := h7
       go_loop [6, 37] (fun vn vi => ∃ (j : Nat) (n : Int), j ≤ 7 ∧ vi = .int .i64 j ∧ vn = .int .u64 n ∧ 0 ≤ n ∧ n < 18446744073709551616) (fun _ vi => 7 - (intOf vi).toNat)
       case atStart => exact ⟨0, 0, Nat.zero_le _, rfl, rfl, by omega, by omega⟩
       case round =>
         obtain ⟨j, n, hj, rfl, rfl, n0, n1⟩ := hrel
         by_cases hjl : j < 7
         · obtain ⟨b', off', hbo, -, -, d0, d1, hc⟩ := bytes_at (bytesR.keepB H.out hbr) (k + j) (by omega)
           simp at hbo
           obtain ⟨rfl, rfl⟩ := hbo; rw [← Nat.add_assoc] at hc; generalize xs[k + j] = x at *; have hin := or_in n0 n1 (wrap_in (x * 2 ^ (8 * j))).1 (wrap_in (x * 2 ^ (8 * j))).2; have HIN := Lib.hid hin; clear hin; go_wp2_with fail
           go_round
           case rel => exact ⟨j + 1, _, by omega, by go_num, rfl, HIN.out.1, HIN.out.2⟩
           case measure => simp [intOf]; omega
         · obtain rfl : j = 7 := by omega
           have HY : Hid (u64R.rel (fun _ => False) wr [.int .u64 n] n) := ⟨rfl, okU_of n0 n1⟩
           go_wp2_with (at_builtin; refine wpList_push (r := u64R) (wr := wr) (es := [.int .u64 n]) (v := u3) (w0 := w) (B := w.heap.size) rfl _ _ rfl Tryz.etyNums rfl rfl hbr hsz HOR.out HY.out (fun x hx => hx.elim) (by unfold maxLen; omega) (by omega) ?_)
           intro v2 w3 ho3 hb3
           have HZ := Lib.hid (Own.mono ho3 (F' := fun x => False ∨ w.heap.size ≤ x) fun x _ h => by first | exact h | exact .inr h)
           clear ho3; go_wp2_with fail
           go_roundw
           case rel => exact ⟨k + 7, ns ++ [n], by omega, by go_num, by simp; omega, fun _ => by simp; omega, by simp; omega, HZ.out, hb3, hb3.size⟩
           case measure => simp [intOf]; omega
     · have h7i : (xs.length : Int) < (k : Int) + 7 := by omega
       have HOR := Lib.hid hor; clear hor; go_wp2_with fail; obtain ⟨M, hM⟩ : ∃ M, xs.length - k = M := ⟨_, rfl⟩; rw [hM]
       have hM7 : M ≤ 7 := by omega
       have hMx : k + M ≤ xs.length := by omega
       clear hM
       go_loop [6, 37] (fun vn vi => ∃ (j : Nat) (n : Int), j ≤ M ∧ vi = .int .i64 j ∧ vn = .int .u64 n ∧ 0 ≤ n ∧ n < 18446744073709551616) (fun _ vi => M - (intOf vi).toNat)
       case atStart => exact ⟨0, 0, Nat.zero_le _, rfl, rfl, by omega, by omega⟩
       case round =>
         obtain ⟨j, n, hj, rfl, rfl, n0, n1⟩ := hrel
         by_cases hjl : j < M
         · obtain ⟨b', off', hbo, -, -, d0, d1, hc⟩ := bytes_at (bytesR.keepB H.out hbr) (k + j) (by omega)
           simp at hbo
           obtain ⟨rfl, rfl⟩ := hbo; rw [← Nat.add_assoc] at hc; generalize xs[k + j] = x at *; have hin := or_in n0 n1 (wrap_in (x * 2 ^ (8 * j))).1 (wrap_in (x * 2 ^ (8 * j))).2; have HIN := Lib.hid hin; clear hin; go_wp2_with fail
           go_round
           case rel => exact ⟨j + 1, _, by omega, by go_num, rfl, HIN.out.1, HIN.out.2⟩
           case measure => simp [intOf]; omega
         · obtain rfl : j = M := by omega
           have HY : Hid (u64R.rel (fun _ => False) wr [.int .u64 n] n) := ⟨rfl, okU_of n0 n1⟩
           go_wp2_with (at_builtin; refine wpList_push (r := u64R) (wr := wr) (es := [.int .u64 n]) (v := u3) (w0 := w) (B := w.heap.size) rfl _ _ rfl Tryz.etyNums rfl rfl hbr hsz HOR.out HY.out (fun x hx => hx.elim) (by unfold maxLen; omega) (by omega) ?_)
           intro v2 w3 ho3 hb3
           have HZ := Lib.hid (Own.mono ho3 (F' := fun x => False ∨ w.heap.size ≤ x) fun x _ h => by first | exact h | exact .inr h)
           clear ho3; go_wp2_with fail
           go_roundw
           case rel => exact ⟨k + 7, ns ++ [n], by omega, by go_num, by simp; omega, fun _ => by simp; omega, by simp; omega, HZ.out, hb3, hb3.size⟩
           case measure => simp [intOf]; omega
   · obtain ⟨a2, c2, rfl, -, -⟩ := sliceR.form hor.slice
     have HS := Lib.hid (numsR.mono hor.slice (S' := fun _ => True) fun _ _ _ => trivial)
     clear hor; go_wp2_with fail; go_ret
     exact ⟨ns, a2, c2, by omega, rfl, HS.out, hbr⟩
def SomeH (w : World) (e : Ending) (w' : World) : Prop := ∃ x : Int, e = .returned (.int .u64 x) ∧ 0 ≤ x ∧ x < 18446744069414584321 ∧ Below w.heap.size w w'
theorem hashBytes_any (S : Nat → Prop) (w : World) (label : Int) (l0 : 0 ≤ label) (a : Option Addr) (cap : Nat) (xs : List Int) (h : bytesR.rel S w [.slice a xs.length cap] xs) (hx : xs.length ≤ 100000) :
   Calls Tryz.prog 195 #[.int .u64 label, .slice a xs.length cap] w (SomeH w) := by
 go_enter Tryz.func195, Tryz.ntmps195
 go_wp2_with fail
 refine (pack_any S w a cap xs h hx).mono ?_
 rintro e w1 ⟨ys, a1, c1, hyl, rfl, hr, hb1⟩; go_wp2_with fail
 refine (Hash_big label l0 (fun _ => True) w1 a1 c1 ys hr (by omega)).mono ?_
 rintro e w2 ⟨rfl, hb2⟩; have hin := hashS_in label ys; generalize hashS label ys = x at *; go_wp2_with fail; go_ret
 exact ⟨x, rfl, hin.1, hin.2, bnext hb1 hb2⟩
end Go.Proofs.YtphacfkcifpobaaGreatDoor
