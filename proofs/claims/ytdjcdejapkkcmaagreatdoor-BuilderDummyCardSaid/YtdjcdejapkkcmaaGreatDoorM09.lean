/- The reference's sponge at the big prime. -/
import Derived.Test.YtdjcdejapkkcmaaGreatDoorM08
import Derived.Test.YtdjcdejapkkcmaaGreatDoorM07
import Derived.Test.YtdjcdejapkkcmaaGreatDoorM03
import Derived.BigQuiet
import Derived.Test.YtdjcdejapkkcmaaGreatDoorM02
import Derived.Test.YtdjcdejapkkcmaaGreatDoorM04
import Derived.Test.YtdjcdejapkkcmaaGreatDoorM05
namespace Go.Proofs.YtdjcdejapkkcmaaGreatDoor
open Go.ChangeShapes Go.WideShapes Go.ChangeAt Go.RowKit Go.Sort

/-- Zeros at block B, the state at block q; blocks below B are as they were. -/
def RaAt (w : World) (q : Nat) (s : T3) (wr : World) : Prop :=
  Below w.heap.size w wr ∧ wr.heap[w.heap.size]? = some (.cells #[.int .u64 0, .int .u64 0, .int .u64 0] 111 (0, 0)) ∧ wr.heap[q]? = some (.cells #[.int .u64 s.1, .int .u64 s.2.1, .int .u64 s.2.2] 111 (0, 0)) ∧ w.heap.size < q
theorem RaAt.next {w w1 w2 : World} {q : Nat} {s : T3} (h : RaAt w q s w1) (hb : Below w1.heap.size w1 w2) : RaAt w q s w2 := ⟨bnext h.1 hb, box_after hb h.2.1, box_after hb h.2.2.1, h.2.2.2⟩
theorem RaAt.store {w wr : World} {q : Nat} {s : T3} (h : RaAt w q s wr) (t : T3) : RaAt w q t (((wr.setCell ⟨q, 0, none⟩ (.int .u64 t.1)).setCell ⟨q, 1, none⟩ (.int .u64 t.2.1)).setCell ⟨q, 2, none⟩ (.int .u64 t.2.2)) := by
  obtain ⟨h1, h2, h4, h5⟩ := h
  have e0 : w.heap.size ≠ q := by omega
  have hq : w.heap.size ≤ q := by omega
  exact ⟨((h1.setCell hq _).setCell hq _).setCell hq _, box_set_far (box_set_far (box_set_far h2 e0) e0) e0, box_set (box_set (box_set h4)), h5⟩
theorem RaAt.one {w wr : World} {q : Nat} {s t : T3} (h : RaAt w q s wr) (i : Nat) (v : Value) (ht : (#[.int .u64 s.1, .int .u64 s.2.1, .int .u64 s.2.2] : Array Value).setIfInBounds i v = #[.int .u64 t.1, .int .u64 t.2.1, .int .u64 t.2.2]) : RaAt w q t (wr.setCell ⟨q, i, none⟩ v) := by
  obtain ⟨h1, h2, h4, h5⟩ := h
  have e0 : w.heap.size ≠ q := by omega
  exact ⟨h1.setCell (by show w.heap.size ≤ q; omega) _, box_set_far h2 e0, ht ▸ box_set h4, h5⟩

set_option maxRecDepth 100000 in
set_option maxHeartbeats 4000000 in
theorem rabsorb_big (label : Int) (hl0 : 0 ≤ label) (S : Nat → Prop) (w : World) (a : Option Addr) (cap : Nat) (l : List Int) (h : numsR.rel S w [.slice a l.length cap] l) (hlen : l.length ≤ 1000000) :
    Calls Tryz.prog 152 #[.int .u64 18446744069414584321, .int .u64 label, .slice a l.length cap] w
      fun e w' => e = .returned (.agg #[.int .u64 (absorbS label l).1, .int .u64 (absorbS label l).2.1, .int .u64 (absorbS label l).2.2]) ∧ Below w.heap.size w w' := by
  have H := Lib.hid h
  clear h
  have m0 := mulP_in label 65536
  have l0 : (0 : Int) ≤ l.length := by omega
  have hwr : IntKind.u64.wrap (l.length : Int) = l.length := by rw [IntKind.wrap_u64]; omega
  have hbA := bnew (Below.refl w.heap.size w) (.cells #[.int .u64 0, .int .u64 0, .int .u64 0] 111)
  have HA := Lib.hid (box_new w (.cells #[.int .u64 0, .int .u64 0, .int .u64 0] 111))
  have HSW := Lib.hid (absStart_words label l.length)
  have HSE : Hid (absStart label l.length = (0, 0, addP (mulP label 65536) l.length)) := rfl
  have eA : (w.alloc (.cells #[.int .u64 0, .int .u64 0, .int .u64 0] 111)).heap.size = w.heap.size + 1 := World.size_alloc ..
  go_enter Tryz.func152, Tryz.ntmps152
  go_wp2_with fail
  refine (rMul_big label 65536 hl0 (by omega) _).mono ?_
  rintro e w1 ⟨rfl, hb1⟩
  go_wp2_with fail
  refine (rAdd_big (mulP label 65536) l.length m0.1 l0 _).mono ?_
  rintro e w2 ⟨rfl, hb2⟩
  have hbk := bnext hb1 hb2
  have hsz := hbk.size
  rw [eA] at hsz
  have hq : RaAt w w2.heap.size (absStart label l.length) (w2.alloc (.cells #[.int .u64 0, .int .u64 0, .int .u64 (addP (mulP label 65536) l.length)] 111)) :=
    ⟨bnew (bnext hbA hbk) _, box_old (box_after hbk HA.out), by rw [HSE.out]; exact box_new _ _, by omega⟩
  have HQ := Lib.hid hq
  clear hq m0 l0 hwr hbA HA hb1 hb2 hbk hsz eA
  go_wp2_with fail
  generalize w2.alloc (.cells #[.int .u64 0, .int .u64 0, .int .u64 (addP (mulP label 65536) l.length)] 111) = wc at *
  generalize w2.heap.size = q at *
  by_cases hl0' : l.length = 0
  · have HR : Hid (absorbS label l = permS (absStart label l.length)) := by show _ = _; unfold absorbS; rw [if_pos hl0', hl0']
    generalize absStart label l.length = s at *
    go_loopw [8] (fun vi wr => ∃ (i : Int) (t : T3), vi = .int .i64 i ∧ RaAt w q t wr ∧ Hid ((i = 0 ∧ t = s) ∨ (i = 2 ∧ t = permS s))) (fun vi _ => 2 - (intOf vi).toNat)
    case atStart => exact ⟨0, s, rfl, HQ.out, .inl ⟨rfl, rfl⟩⟩
    case round =>
      obtain ⟨i, t, rfl, hat, hor⟩ := hrel
      rcases hor.out with ⟨rfl, rfl⟩ | ⟨rfl, rfl⟩
      · have HAT := Lib.hid hat
        obtain ⟨c0, c1⟩ := box_cells hat.2.2.1
        clear hat
        have hz : ¬ (0 : Int) < (l.length : Int) := by omega
        have hz1 : ¬ (1 : Int) < (l.length : Int) := by omega
        clear hl0'
        go_wp2_with fail
        refine (rpermute_big t HSW.out _).mono ?_
        rintro e w3 ⟨rfl, hb3⟩
        have p5 := HAT.out.next hb3
        clear c0 c1
        obtain ⟨c0, c1⟩ := box_cells p5.2.2.1
        have HN := Lib.hid (RaAt.store p5 (permS t))
        clear p5
        go_wp2_with fail
        go_roundw
        case rel => exact ⟨2, permS t, by go_num, HN.out, .inr ⟨rfl, rfl⟩⟩
        case measure => simp [intOf]
      · have HB := Lib.hid hat.1
        obtain ⟨y0, y1⟩ := box_cells hat.2.1
        obtain ⟨z0, z1⟩ := box_cells hat.2.2.1
        clear hat
        have hz : ¬ (2 : Int) < (l.length : Int) := by omega
        clear hl0'
        generalize permS s = t at *
        obtain ⟨r0, r1, r2⟩ := read3 (x := .int .u64 t.1) (y := .int .u64 t.2.1) (z := .int .u64 t.2.2) (y0 0) (y0 1) (y0 2)
        go_wp2_with fail
        refine bodyPost_ret (v := .agg #[.int .u64 t.1, .int .u64 t.2.1, .int .u64 t.2.2]) (by simp [results, Tryz.results152, go_sem, r0, r1, r2]) rfl ⟨by rw [HR.out], ?_⟩
        exact ((HB.out.setCell (Nat.le_refl _) _).setCell (Nat.le_refl _) _).setCell (Nat.le_refl _) _
  · have HT : Hid (absorbS label l = absLoop (absStart label l.length) l) := by show _ = _; unfold absorbS; rw [if_neg hl0']
    generalize absStart label l.length = s0 at *
    go_loopw [8] (fun vi wr => ∃ (i : Nat) (s : T3), i ≤ l.length + 1 ∧ vi = .int .i64 i ∧ Words3 s ∧ RaAt w q s wr ∧ Hid (absLoop s (l.drop i) = absLoop s0 l)) (fun vi _ => l.length + 2 - (intOf vi).toNat)
    case atStart => exact ⟨0, s0, by omega, rfl, HSW.out, HQ.out, rfl⟩
    case round =>
      obtain ⟨i, s, hi, rfl, hws, hat, hinv⟩ := hrel
      by_cases hlt : i < l.length
      · obtain ⟨b, off, rfl, hbl, e0, en, hc⟩ := nums_at H.out i hlt
        by_cases hi0 : i = 0
        · have z1 : ((i : Int) == 0) = true := by rw [beq_iff_eq]; omega
          clear hi0
          have sn : 0 ≤ s.1 := by unfold Words3 at hws; omega
          have sm : 0 ≤ s.2.1 := by unfold Words3 at hws; omega
          have i0 : (0 : Int) ≤ (i : Int) := by omega
          have i1 : (i : Int) < (l.length : Int) := by omega
          have sa := addP_word s.1 l[i]
          by_cases hlt2 : i + 1 < l.length
          · have HS := Lib.hid (absLoop_two s l i hlt2)
            obtain ⟨b2, off2, hbo, hbl2, f0, fn, hc2⟩ := nums_at H.out (i + 1) hlt2
            simp at hbo
            obtain ⟨rfl, rfl⟩ := hbo
            have HC2 := Lib.hid hc2
            clear hc2
            have i2 : (i : Int) + 1 < (l.length : Int) := by omega
            have i3 : (0 : Int) ≤ (i : Int) + 1 := by omega
            have i4 : ((i : Int) + 1).toNat = i + 1 := by omega
            have hw1 : IntKind.i64.wrap ((i : Int) + 1) = (i : Int) + 1 := by rw [IntKind.wrap_i64]; omega
            have sb := addP_word s.2.1 l[i + 1]
            generalize l[i] = m at *
            generalize l[i + 1] = m2 at *
            have HI : Hid (absLoop (permS (addP s.1 m, addP s.2.1 m2, s.2.2)) (l.drop (i + 2)) = absLoop s0 l) := by show _ = _; rw [← HS.out, hinv.out]
            have NW : Hid (Words3 (addP s.1 m, addP s.2.1 m2, s.2.2)) := by unfold Words3 at hws; exact ⟨sa, sb, hws.2.2⟩
            have HAT := Lib.hid hat
            have hci := (hat.1.cell (p := ⟨b, off + i, none⟩) hbl).trans hc
            have y0 := box_regrown hat.2.2.1
            have z0 := cell_in hci
            clear hat hci
            go_wp2_with fail
            refine wp_region_quiet_tail 8 (by kernel_rfl) (by kernel_rfl) ?_
            simp only [List.take_succ_cons, List.take_zero, List.drop_succ_cons, List.drop_zero]
            repeat (first | go_big_quiet_step (exact Calls.regrown_of (rAdd_big s.1 m sn e0 _)) | quiet_step (exact Calls.regrown_of (rAdd_big s.1 m sn e0 _)))
            refine wpQuiet_nil ?_
            intro wq hw'
            obtain ⟨⟨dq, osq⟩, hw''⟩ := hw'
            have hbq := below_regrown wr dq osq
            rw [← hw''] at hbq
            clear hw'' y0 z0
            have p1 := HAT.out.next hbq
            obtain ⟨c0, c1⟩ := box_cells p1.2.2.1
            have P2 := Lib.hid (RaAt.one (t := (addP s.1 m, s.2.1, s.2.2)) p1 0 (.int .u64 (addP s.1 m)) rfl)
            clear p1
            go_wp2_with fail
            generalize wq.setCell ⟨q, 0, none⟩ (.int .u64 (addP s.1 m)) = wx at P2 ⊢
            clear c0 c1
            have hcx := (P2.out.1.cell (p := ⟨b, off + (i + 1), none⟩) hbl2).trans HC2.out
            have y0 := box_regrown P2.out.2.2.1
            have z0 := cell_in hcx
            clear hcx
            refine wp_region_quiet_tail 9 (by kernel_rfl) (by kernel_rfl) ?_
            simp only [List.take_succ_cons, List.take_zero, List.drop_succ_cons, List.drop_zero]
            repeat (first | go_big_quiet_step (exact Calls.regrown_of (rAdd_big s.2.1 m2 sm f0 _)) | quiet_step (exact Calls.regrown_of (rAdd_big s.2.1 m2 sm f0 _)))
            refine wpQuiet_nil ?_
            intro wq2 hw'
            obtain ⟨⟨dq2, osq2⟩, hw''⟩ := hw'
            have hbq2 := below_regrown wx dq2 osq2
            rw [← hw''] at hbq2
            clear hw'' y0 z0
            have p1 := P2.out.next hbq2
            obtain ⟨c0, c1⟩ := box_cells p1.2.2.1
            have PX := Lib.hid (RaAt.one (t := (addP s.1 m, addP s.2.1 m2, s.2.2)) p1 1 (.int .u64 (addP s.2.1 m2)) rfl)
            clear p1
            go_wp2_with fail
            refine (rpermute_big (addP s.1 m, addP s.2.1 m2, s.2.2) NW.out _).mono ?_
            rintro e w5 ⟨rfl, hb5⟩
            have p5 := PX.out.next hb5
            clear c0 c1
            obtain ⟨c0, c1⟩ := box_cells p5.2.2.1
            have HN := Lib.hid (RaAt.store p5 (permS (addP s.1 m, addP s.2.1 m2, s.2.2)))
            clear p5
            go_wp2_with fail
            go_roundw
            case rel => exact ⟨i + 2, permS (addP s.1 m, addP s.2.1 m2, s.2.2), by omega, by go_num, permS_words _, HN.out, HI⟩
            case measure => simp [intOf]; omega
          · have HS := Lib.hid (absLoop_one s l i hlt (by omega))
            generalize l[i] = m at *
            have i2 : ¬ ((i : Int) + 1 < (l.length : Int)) := by omega
            have HI : Hid (absLoop (permS (addP s.1 m, s.2.1, s.2.2)) (l.drop (i + 2)) = absLoop s0 l) := by
              show _ = _
              rw [← hinv.out, HS.out, List.drop_of_length_le (by omega)]; rfl
            have NW : Hid (Words3 (addP s.1 m, s.2.1, s.2.2)) := by unfold Words3 at hws; exact ⟨sa, hws.2.1, hws.2.2⟩
            have HAT := Lib.hid hat
            have hci := (hat.1.cell (p := ⟨b, off + i, none⟩) hbl).trans hc
            have y0 := box_regrown hat.2.2.1
            have z0 := cell_in hci
            clear hat hci
            go_wp2_with fail
            refine wp_region_quiet_tail 8 (by kernel_rfl) (by kernel_rfl) ?_
            simp only [List.take_succ_cons, List.take_zero, List.drop_succ_cons, List.drop_zero]
            repeat (first | go_big_quiet_step (exact Calls.regrown_of (rAdd_big s.1 m sn e0 _)) | quiet_step (exact Calls.regrown_of (rAdd_big s.1 m sn e0 _)))
            refine wpQuiet_nil ?_
            intro wq hw'
            obtain ⟨⟨dq, osq⟩, hw''⟩ := hw'
            have hbq := below_regrown wr dq osq
            rw [← hw''] at hbq
            clear hw'' y0 z0
            have p1 := HAT.out.next hbq
            obtain ⟨c0, c1⟩ := box_cells p1.2.2.1
            have PX := Lib.hid (RaAt.one (t := (addP s.1 m, s.2.1, s.2.2)) p1 0 (.int .u64 (addP s.1 m)) rfl)
            clear p1
            go_wp2_with fail
            refine (rpermute_big (addP s.1 m, s.2.1, s.2.2) NW.out _).mono ?_
            rintro e w5 ⟨rfl, hb5⟩
            have p5 := PX.out.next hb5
            clear c0 c1
            obtain ⟨c0, c1⟩ := box_cells p5.2.2.1
            have HN := Lib.hid (RaAt.store p5 (permS (addP s.1 m, s.2.1, s.2.2)))
            clear p5
            go_wp2_with fail
            go_roundw
            case rel => exact ⟨i + 2, permS (addP s.1 m, s.2.1, s.2.2), by omega, by go_num, permS_words _, HN.out, HI⟩
            case measure => simp [intOf]; omega
        · have z1 : ((i : Int) == 0) = false := by rw [beq_eq_false_iff_ne]; omega
          clear hi0
          have sn : 0 ≤ s.1 := by unfold Words3 at hws; omega
          have sm : 0 ≤ s.2.1 := by unfold Words3 at hws; omega
          have i0 : (0 : Int) ≤ (i : Int) := by omega
          have i1 : (i : Int) < (l.length : Int) := by omega
          have sa := addP_word s.1 l[i]
          by_cases hlt2 : i + 1 < l.length
          · have HS := Lib.hid (absLoop_two s l i hlt2)
            obtain ⟨b2, off2, hbo, hbl2, f0, fn, hc2⟩ := nums_at H.out (i + 1) hlt2
            simp at hbo
            obtain ⟨rfl, rfl⟩ := hbo
            have HC2 := Lib.hid hc2
            clear hc2
            have i2 : (i : Int) + 1 < (l.length : Int) := by omega
            have i3 : (0 : Int) ≤ (i : Int) + 1 := by omega
            have i4 : ((i : Int) + 1).toNat = i + 1 := by omega
            have hw1 : IntKind.i64.wrap ((i : Int) + 1) = (i : Int) + 1 := by rw [IntKind.wrap_i64]; omega
            have sb := addP_word s.2.1 l[i + 1]
            generalize l[i] = m at *
            generalize l[i + 1] = m2 at *
            have HI : Hid (absLoop (permS (addP s.1 m, addP s.2.1 m2, s.2.2)) (l.drop (i + 2)) = absLoop s0 l) := by show _ = _; rw [← HS.out, hinv.out]
            have NW : Hid (Words3 (addP s.1 m, addP s.2.1 m2, s.2.2)) := by unfold Words3 at hws; exact ⟨sa, sb, hws.2.2⟩
            have HAT := Lib.hid hat
            have hci := (hat.1.cell (p := ⟨b, off + i, none⟩) hbl).trans hc
            have y0 := box_regrown hat.2.2.1
            have z0 := cell_in hci
            clear hat hci
            go_wp2_with fail
            refine wp_region_quiet_tail 8 (by kernel_rfl) (by kernel_rfl) ?_
            simp only [List.take_succ_cons, List.take_zero, List.drop_succ_cons, List.drop_zero]
            repeat (first | go_big_quiet_step (exact Calls.regrown_of (rAdd_big s.1 m sn e0 _)) | quiet_step (exact Calls.regrown_of (rAdd_big s.1 m sn e0 _)))
            refine wpQuiet_nil ?_
            intro wq hw'
            obtain ⟨⟨dq, osq⟩, hw''⟩ := hw'
            have hbq := below_regrown wr dq osq
            rw [← hw''] at hbq
            clear hw'' y0 z0
            have p1 := HAT.out.next hbq
            obtain ⟨c0, c1⟩ := box_cells p1.2.2.1
            have P2 := Lib.hid (RaAt.one (t := (addP s.1 m, s.2.1, s.2.2)) p1 0 (.int .u64 (addP s.1 m)) rfl)
            clear p1
            go_wp2_with fail
            generalize wq.setCell ⟨q, 0, none⟩ (.int .u64 (addP s.1 m)) = wx at P2 ⊢
            clear c0 c1
            have hcx := (P2.out.1.cell (p := ⟨b, off + (i + 1), none⟩) hbl2).trans HC2.out
            have y0 := box_regrown P2.out.2.2.1
            have z0 := cell_in hcx
            clear hcx
            refine wp_region_quiet_tail 9 (by kernel_rfl) (by kernel_rfl) ?_
            simp only [List.take_succ_cons, List.take_zero, List.drop_succ_cons, List.drop_zero]
            repeat (first | go_big_quiet_step (exact Calls.regrown_of (rAdd_big s.2.1 m2 sm f0 _)) | quiet_step (exact Calls.regrown_of (rAdd_big s.2.1 m2 sm f0 _)))
            refine wpQuiet_nil ?_
            intro wq2 hw'
            obtain ⟨⟨dq2, osq2⟩, hw''⟩ := hw'
            have hbq2 := below_regrown wx dq2 osq2
            rw [← hw''] at hbq2
            clear hw'' y0 z0
            have p1 := P2.out.next hbq2
            obtain ⟨c0, c1⟩ := box_cells p1.2.2.1
            have PX := Lib.hid (RaAt.one (t := (addP s.1 m, addP s.2.1 m2, s.2.2)) p1 1 (.int .u64 (addP s.2.1 m2)) rfl)
            clear p1
            go_wp2_with fail
            refine (rpermute_big (addP s.1 m, addP s.2.1 m2, s.2.2) NW.out _).mono ?_
            rintro e w5 ⟨rfl, hb5⟩
            have p5 := PX.out.next hb5
            clear c0 c1
            obtain ⟨c0, c1⟩ := box_cells p5.2.2.1
            have HN := Lib.hid (RaAt.store p5 (permS (addP s.1 m, addP s.2.1 m2, s.2.2)))
            clear p5
            go_wp2_with fail
            go_roundw
            case rel => exact ⟨i + 2, permS (addP s.1 m, addP s.2.1 m2, s.2.2), by omega, by go_num, permS_words _, HN.out, HI⟩
            case measure => simp [intOf]; omega
          · have HS := Lib.hid (absLoop_one s l i hlt (by omega))
            generalize l[i] = m at *
            have i2 : ¬ ((i : Int) + 1 < (l.length : Int)) := by omega
            have HI : Hid (absLoop (permS (addP s.1 m, s.2.1, s.2.2)) (l.drop (i + 2)) = absLoop s0 l) := by
              show _ = _
              rw [← hinv.out, HS.out, List.drop_of_length_le (by omega)]; rfl
            have NW : Hid (Words3 (addP s.1 m, s.2.1, s.2.2)) := by unfold Words3 at hws; exact ⟨sa, hws.2.1, hws.2.2⟩
            have HAT := Lib.hid hat
            have hci := (hat.1.cell (p := ⟨b, off + i, none⟩) hbl).trans hc
            have y0 := box_regrown hat.2.2.1
            have z0 := cell_in hci
            clear hat hci
            go_wp2_with fail
            refine wp_region_quiet_tail 8 (by kernel_rfl) (by kernel_rfl) ?_
            simp only [List.take_succ_cons, List.take_zero, List.drop_succ_cons, List.drop_zero]
            repeat (first | go_big_quiet_step (exact Calls.regrown_of (rAdd_big s.1 m sn e0 _)) | quiet_step (exact Calls.regrown_of (rAdd_big s.1 m sn e0 _)))
            refine wpQuiet_nil ?_
            intro wq hw'
            obtain ⟨⟨dq, osq⟩, hw''⟩ := hw'
            have hbq := below_regrown wr dq osq
            rw [← hw''] at hbq
            clear hw'' y0 z0
            have p1 := HAT.out.next hbq
            obtain ⟨c0, c1⟩ := box_cells p1.2.2.1
            have PX := Lib.hid (RaAt.one (t := (addP s.1 m, s.2.1, s.2.2)) p1 0 (.int .u64 (addP s.1 m)) rfl)
            clear p1
            go_wp2_with fail
            refine (rpermute_big (addP s.1 m, s.2.1, s.2.2) NW.out _).mono ?_
            rintro e w5 ⟨rfl, hb5⟩
            have p5 := PX.out.next hb5
            clear c0 c1
            obtain ⟨c0, c1⟩ := box_cells p5.2.2.1
            have HN := Lib.hid (RaAt.store p5 (permS (addP s.1 m, s.2.1, s.2.2)))
            clear p5
            go_wp2_with fail
            go_roundw
            case rel => exact ⟨i + 2, permS (addP s.1 m, s.2.1, s.2.2), by omega, by go_num, permS_words _, HN.out, HI⟩
            case measure => simp [intOf]; omega
      · have HE : Hid (absorbS label l = s) := by
          show _ = _
          rw [HT.out, ← hinv.out, List.drop_of_length_le (by omega)]; rfl
        have z1 : ((i : Int) == 0) = false := by rw [beq_eq_false_iff_ne]; omega
        have HB := Lib.hid hat.1
        obtain ⟨y0, y1⟩ := box_cells hat.2.1
        obtain ⟨z0, z1'⟩ := box_cells hat.2.2.1
        clear hat
        obtain ⟨r0, r1, r2⟩ := read3 (x := .int .u64 s.1) (y := .int .u64 s.2.1) (z := .int .u64 s.2.2) (y0 0) (y0 1) (y0 2)
        go_wp2_with fail
        refine bodyPost_ret (v := .agg #[.int .u64 s.1, .int .u64 s.2.1, .int .u64 s.2.2]) (by simp [results, Tryz.results152, go_sem, r0, r1, r2]) rfl ⟨by rw [HE.out], ?_⟩
        exact ((HB.out.setCell (Nat.le_refl _) _).setCell (Nat.le_refl _) _).setCell (Nat.le_refl _) _
set_option maxRecDepth 100000 in
set_option maxHeartbeats 400000 in
theorem rHash_big (label : Int) (hl0 : 0 ≤ label) (S : Nat → Prop) (w : World) (a : Option Addr) (cap : Nat) (l : List Int) (h : numsR.rel S w [.slice a l.length cap] l) (hlen : l.length ≤ 1000000) :
    Calls Tryz.prog 98 #[.int .u64 18446744069414584321, .int .u64 label, .slice a l.length cap] w fun e w' => e = .returned (.int .u64 (hashS label l)) ∧ Below w.heap.size w w' := by
  have HH : Hid (hashS label l = (absorbS label l).1) := rfl
  go_enter Tryz.func98, Tryz.ntmps98
  go_wp2_with fail
  refine (rvalid_big _).mono ?_
  rintro e w1 ⟨rfl, hb1⟩
  go_wp2_with fail
  refine (rabsorb_big label hl0 S w1 a cap l (numsR.keepB h hb1) hlen).mono ?_
  rintro e w2 ⟨rfl, hb2⟩
  generalize absorbS label l = t at *
  have hix := index3 t.1 t.2.1 t.2.2
  go_wp2_with fail
  go_ret
  exact ⟨ret_int HH.out.symm, bnext hb1 hb2⟩
end Go.Proofs.YtdjcdejapkkcmaaGreatDoor
/- The reference's elements, keys, notes, nodes. -/
/- The relation: sums, what is valid. -/
namespace Go.Proofs.YtdjcdejapkkcmaaGreatDoor
open Go.ChangeShapes Go.WideShapes Go.ChangeAt Go.RowKit Go.Sort

structure StIn (S : Nat → Prop) (w : World) (s : StM) (ma ca ra : Option Addr) (mc cc rc : Nat) : Prop where
  anchor : okU s.anchor
  dep : okU s.dep
  wd : okU s.wd
  fee : okU s.fee
  acc : okU s.acc
  bind : okU s.bind
  marks : numsR.rel S w [.slice ma s.marks.length mc] s.marks
  commits : numsR.rel S w [.slice ca s.commits.length cc] s.commits
  rhos : numsR.rel S w [.slice ra s.rhos.length rc] s.rhos
theorem StIn.keepB {S : Nat → Prop} {w w' : World} {s : StM} {ma ca ra : Option Addr} {mc cc rc : Nat} (h : StIn S w s ma ca ra mc cc rc) (hb : Below w.heap.size w w') : StIn S w' s ma ca ra mc cc rc :=
  ⟨h.anchor, h.dep, h.wd, h.fee, h.acc, h.bind, numsR.keepB h.marks hb, numsR.keepB h.commits hb, numsR.keepB h.rhos hb⟩
structure WtIn (S : Nat → Prop) (w : World) (t : WitM) (ia oa : Option Addr) (ic oc : Nat) : Prop where
  ins : spentsR.rel S w [.slice ia t.ins.length ic] t.ins
  outs : notesR.rel S w [.slice oa t.outs.length oc] t.outs
  secret : okU t.secret
theorem WtIn.keepB {S : Nat → Prop} {w w' : World} {t : WitM} {ia oa : Option Addr} {ic oc : Nat} (h : WtIn S w t ia oa ic oc) (hb : Below w.heap.size w w') : WtIn S w' t ia oa ic oc :=
  ⟨spentsR.keepB h.ins hb, notesR.keepB h.outs hb, h.secret⟩

def insSum (l : List SpentM) : Nat → Int
  | 0 => 0
  | k + 1 => IntKind.u64.wrap (insSum l k + ((l.map (fun i => i.note.value)).getD k 0))
def outsSum (l : List NoteM) : Nat → Int
  | 0 => 0
  | k + 1 => IntKind.u64.wrap (outsSum l k + ((l.map (fun n => n.value)).getD k 0))
theorem insSum_step (l : List SpentM) (k : Nat) (h : k < l.length) : insSum l (k + 1) = IntKind.u64.wrap (insSum l k + l[k].note.value) := by
  show IntKind.u64.wrap (insSum l k + _) = _
  rw [getD_at _ _ k (by simpa using h)]; simp
theorem outsSum_step (l : List NoteM) (k : Nat) (h : k < l.length) : outsSum l (k + 1) = IntKind.u64.wrap (outsSum l k + l[k].value) := by
  show IntKind.u64.wrap (outsSum l k + _) = _
  rw [getD_at _ _ k (by simpa using h)]; simp
set_option maxRecDepth 100000 in
set_option maxHeartbeats 1000000 in
theorem inputs_any (S : Nat → Prop) (w : World) (t : WitM) (ia oa : Option Addr) (ic oc : Nat) (h : WtIn S w t ia oa ic oc) :
    Calls Tryz.prog 116 #[.agg #[.slice ia t.ins.length ic, .slice oa t.outs.length oc, .int .u64 t.secret]] w fun e w' => e = .returned (.int .u64 (insSum t.ins t.ins.length)) ∧ Below w.heap.size w w' := by
  have g1 := (sliceR.lens h.ins).2
  unfold maxLen at g1
  have hb0 := bnew (Below.refl w.heap.size w) (.cells #[.slice ia t.ins.length ic, .slice oa t.outs.length oc, .int .u64 t.secret] 48)
  have H := Lib.hid (h.keepB hb0)
  clear h
  go_enter Tryz.func116, Tryz.ntmps116
  go_wp2_with fail
  go_loopw [3, 9] (fun vs vi wr => ∃ k : Nat, k ≤ t.ins.length ∧ vi = .int .i64 k ∧ vs = .int .u64 (insSum t.ins k) ∧ Below (w.alloc (.cells #[.slice ia t.ins.length ic, .slice oa t.outs.length oc, .int .u64 t.secret] 48)).heap.size (w.alloc (.cells #[.slice ia t.ins.length ic, .slice oa t.outs.length oc, .int .u64 t.secret] 48)) wr) (fun _ vi _ => t.ins.length - (intOf vi).toNat)
  case atStart => exact ⟨0, Nat.zero_le _, rfl, rfl, Below.refl _ _⟩
  case round =>
    obtain ⟨k, hk, rfl, rfl, hbr⟩ := hrel
    by_cases hlt : k < t.ins.length
    · obtain ⟨b, off, pa, pc, rfl, hbl, hok, hpa, c0, c1, c2, c3, c4, c5, c6, c7, c8⟩ := spents_at (spentsR.keepB H.out.ins hbr) k hlt
      have HS : Hid (insSum t.ins (k + 1) = IntKind.u64.wrap (insSum t.ins k + t.ins[k].note.value)) := insSum_step t.ins k hlt
      clear hpa
      generalize t.ins[k] = i at *
      generalize insSum t.ins k = m at *
      have hbn := bnew (Below.refl wr.heap.size wr) (.cells #[.int .u64 i.note.value, .int .u64 i.note.owner, .int .u64 i.note.rho, .int .u64 i.note.blind, .int .u64 i.key, .int .i64 i.number, .int .i64 i.position, .slice pa i.path.length pc, .bool i.dummy] 58)
      go_wp2_with fail
      go_roundw
      case rel => exact ⟨k + 1, by omega, by go_num, by rw [HS.out], bnext hbr hbn⟩
      case measure => simp [intOf]; omega
    · obtain rfl : k = t.ins.length := by omega
      go_wp2_with fail
      go_ret
      exact ⟨rfl, bnext hb0 hbr⟩
set_option maxRecDepth 100000 in
set_option maxHeartbeats 1000000 in
theorem outputs_any (S : Nat → Prop) (w : World) (t : WitM) (ia oa : Option Addr) (ic oc : Nat) (h : WtIn S w t ia oa ic oc) :
    Calls Tryz.prog 117 #[.agg #[.slice ia t.ins.length ic, .slice oa t.outs.length oc, .int .u64 t.secret]] w fun e w' => e = .returned (.int .u64 (outsSum t.outs t.outs.length)) ∧ Below w.heap.size w w' := by
  have g1 := (sliceR.lens h.outs).2
  unfold maxLen at g1
  have hb0 := bnew (Below.refl w.heap.size w) (.cells #[.slice ia t.ins.length ic, .slice oa t.outs.length oc, .int .u64 t.secret] 48)
  have H := Lib.hid (h.keepB hb0)
  clear h
  go_enter Tryz.func117, Tryz.ntmps117
  go_wp2_with fail
  go_loopw [3, 9] (fun vs vi wr => ∃ k : Nat, k ≤ t.outs.length ∧ vi = .int .i64 k ∧ vs = .int .u64 (outsSum t.outs k) ∧ Below (w.alloc (.cells #[.slice ia t.ins.length ic, .slice oa t.outs.length oc, .int .u64 t.secret] 48)).heap.size (w.alloc (.cells #[.slice ia t.ins.length ic, .slice oa t.outs.length oc, .int .u64 t.secret] 48)) wr) (fun _ vi _ => t.outs.length - (intOf vi).toNat)
  case atStart => exact ⟨0, Nat.zero_le _, rfl, rfl, Below.refl _ _⟩
  case round =>
    obtain ⟨k, hk, rfl, rfl, hbr⟩ := hrel
    by_cases hlt : k < t.outs.length
    · obtain ⟨b, off, rfl, hbl, hok, c0, c1, c2, c3⟩ := notes_at (notesR.keepB H.out.outs hbr) k hlt
      have HS : Hid (outsSum t.outs (k + 1) = IntKind.u64.wrap (outsSum t.outs k + t.outs[k].value)) := outsSum_step t.outs k hlt
      generalize t.outs[k] = n at *
      generalize outsSum t.outs k = m at *
      have hbn := bnew (Below.refl wr.heap.size wr) (.cells #[.int .u64 n.value, .int .u64 n.owner, .int .u64 n.rho, .int .u64 n.blind] 56)
      go_wp2_with fail
      go_roundw
      case rel => exact ⟨k + 1, by omega, by go_num, by rw [HS.out], bnext hbr hbn⟩
      case measure => simp [intOf]; omega
    · obtain rfl : k = t.outs.length := by omega
      go_wp2_with fail
      go_ret
      exact ⟨rfl, bnext hb0 hbr⟩

end Go.Proofs.YtdjcdejapkkcmaaGreatDoor
/- The relation: one spent note. -/
namespace Go.Proofs.YtdjcdejapkkcmaaGreatDoor
open Go.ChangeShapes Go.WideShapes Go.ChangeAt Go.RowKit Go.Sort

def checkInE (anchor : Int) (i : SpentM) (pub : Int) : Int :=
  if i.note.owner = ownerS i.key i.number then
    (if markK i.key i.note.rho = true ∧ markV i.key i.note.rho = pub then
      (if i.dummy = true then (if i.note.value = 0 then 0 else 13)
       else (if noteB i.note = true ∧ climbS (commitV i.note) i.position i.path = anchor then 0 else 11))
     else 12)
  else 21
theorem commitV_ok (n : NoteM) : okU (commitV n) := by
  unfold commitV
  split
  · exact hashS_ok _ _
  · exact okU_of (by omega) (by omega)
set_option maxRecDepth 100000 in
set_option maxHeartbeats 4000000 in
theorem checkIn_any (S : Nat → Prop) (w : World) (p : Nat) (st : Int) (ho : OrAt false st p w) (D : Nat) (s : StM) (ma ca ra : Option Addr) (mc cc rc : Nat) (i : SpentM) (hok : SpentOk i) (pa : Option Addr) (pc : Nat) (hpa : numsR.rel S w [.slice pa i.path.length pc] i.path)
    (h1 : i.path.length ≤ 12) (h2 : 0 ≤ i.position) (h3 : i.position ≤ 4095) (pub : Int) :
    Calls Tryz.prog 115 #[.pointer (some ⟨p, 0, none⟩), .agg #[.int .i64 D, .int .u64 s.anchor, .slice ma s.marks.length mc, .slice ca s.commits.length cc, .slice ra s.rhos.length rc, .int .u64 s.dep, .int .u64 s.wd, .int .u64 s.fee, .int .u64 s.acc, .int .u64 s.bind], .agg #[.int .u64 i.note.value, .int .u64 i.note.owner, .int .u64 i.note.rho, .int .u64 i.note.blind, .int .u64 i.key, .int .i64 i.number, .int .i64 i.position, .slice pa i.path.length pc, .bool i.dummy], .int .u64 pub] w fun e w' => e = .returned (.int .i64 (checkInE s.anchor i pub)) ∧ Below w.heap.size w w' := by
  have hbA := bnew (Below.refl w.heap.size w) (.cells #[.int .i64 D, .int .u64 s.anchor, .slice ma s.marks.length mc, .slice ca s.commits.length cc, .slice ra s.rhos.length rc, .int .u64 s.dep, .int .u64 s.wd, .int .u64 s.fee, .int .u64 s.acc, .int .u64 s.bind] 103)
  have hbB := bnew hbA (.cells #[.int .u64 i.note.value, .int .u64 i.note.owner, .int .u64 i.note.rho, .int .u64 i.note.blind, .int .u64 i.key, .int .i64 i.number, .int .i64 i.position, .slice pa i.path.length pc, .bool i.dummy] 58)
  have qA := box_old (o' := .cells #[.int .u64 i.note.value, .int .u64 i.note.owner, .int .u64 i.note.rho, .int .u64 i.note.blind, .int .u64 i.key, .int .i64 i.number, .int .i64 i.position, .slice pa i.path.length pc, .bool i.dummy] 58) (box_new w (.cells #[.int .i64 D, .int .u64 s.anchor, .slice ma s.marks.length mc, .slice ca s.commits.length cc, .slice ra s.rhos.length rc, .int .u64 s.dep, .int .u64 s.wd, .int .u64 s.fee, .int .u64 s.acc, .int .u64 s.bind] 103))
  have qB := box_new (w.alloc (.cells #[.int .i64 D, .int .u64 s.anchor, .slice ma s.marks.length mc, .slice ca s.commits.length cc, .slice ra s.rhos.length rc, .int .u64 s.dep, .int .u64 s.wd, .int .u64 s.fee, .int .u64 s.acc, .int .u64 s.bind] 103)) (.cells #[.int .u64 i.note.value, .int .u64 i.note.owner, .int .u64 i.note.rho, .int .u64 i.note.blind, .int .u64 i.key, .int .i64 i.number, .int .i64 i.position, .slice pa i.path.length pc, .bool i.dummy] 58)
  have eA : (w.alloc (.cells #[.int .i64 D, .int .u64 s.anchor, .slice ma s.marks.length mc, .slice ca s.commits.length cc, .slice ra s.rhos.length rc, .int .u64 s.dep, .int .u64 s.wd, .int .u64 s.fee, .int .u64 s.acc, .int .u64 s.bind] 103)).heap.size = w.heap.size + 1 := World.size_alloc ..
  rw [eA] at qB
  have HA := Lib.hid qA
  have HBx := Lib.hid qB
  have HBel := Lib.hid hbB
  have HO := Lib.hid (ho.keepB hbB)
  have HP := Lib.hid (numsR.keepB hpa hbB)
  have HOK := Lib.hid hok
  have HU : Hid (checkInE s.anchor i pub = if i.note.owner = ownerS i.key i.number then (if markK i.key i.note.rho = true ∧ markV i.key i.note.rho = pub then (if i.dummy = true then (if i.note.value = 0 then 0 else 13) else (if noteB i.note = true ∧ climbS (commitV i.note) i.position i.path = s.anchor then 0 else 11)) else 12) else 21) := rfl
  clear hbA hbB qA qB eA ho hpa hok
  go_enter Tryz.func115, Tryz.ntmps115
  go_wp2_with fail
  generalize (w.alloc (.cells #[.int .i64 D, .int .u64 s.anchor, .slice ma s.marks.length mc, .slice ca s.commits.length cc, .slice ra s.rhos.length rc, .int .u64 s.dep, .int .u64 s.wd, .int .u64 s.fee, .int .u64 s.acc, .int .u64 s.bind] 103)).alloc (.cells #[.int .u64 i.note.value, .int .u64 i.note.owner, .int .u64 i.note.rho, .int .u64 i.note.blind, .int .u64 i.key, .int .i64 i.number, .int .i64 i.position, .slice pa i.path.length pc, .bool i.dummy] 58) = W at *
  have xq := box_regrown HBx.out
  refine wp_region_quiet_below (by kernel_rfl) (by kernel_rfl) ?_
  repeat (first | go_big_quiet_step (exact Calls.regrown_of (owner_any _ i.key i.number HOK.out.key)) | quiet_step (exact Calls.regrown_of (owner_any _ i.key i.number HOK.out.key)))
  refine wpQuiet_nil ?_
  intro w1 hw'
  obtain ⟨⟨dq, osq⟩, hw''⟩ := hw'
  have hb1 := below_regrown W dq osq
  rw [← hw''] at hb1
  clear hw'' xq
  obtain ⟨x0, x1⟩ := box_cells (box_after hb1 HBx.out)
  by_cases hown : i.note.owner = ownerS i.key i.number
  · have hb : (i.note.owner == ownerS i.key i.number) = true := by rw [beq_iff_eq]; exact hown
    have hb' : (i.note.owner != ownerS i.key i.number) = false := by rw [bne_eq_false_iff_eq]; exact hown
    have HU2 : Hid (checkInE s.anchor i pub = if markK i.key i.note.rho = true ∧ markV i.key i.note.rho = pub then (if i.dummy = true then (if i.note.value = 0 then 0 else 13) else (if noteB i.note = true ∧ climbS (commitV i.note) i.position i.path = s.anchor then 0 else 11)) else 12) := by show _ = _; rw [HU.out, if_pos hown]
    clear hown HU
    generalize ownerS i.key i.number = ow at *
    go_wp2_with fail
    refine (marked_any w1 p st (HO.out.keepB hb1) i.key i.note.rho HOK.out.key HOK.out.note.rho).mono ?_
    rintro e w2 ⟨rfl, hb2⟩
    have hbk := bnext hb1 hb2
    clear x0 x1 hb2
    obtain ⟨x0, x1⟩ := box_cells (box_after hbk HBx.out)
    cases hmk : markK i.key i.note.rho with
    | false =>
      have HF : Hid (checkInE s.anchor i pub = 12) := by show _ = _; rw [HU2.out, if_neg (fun h => by rw [hmk] at h; cases h.1)]
      go_wp2_with fail
      go_ret
      exact ⟨ret_int HF.out.symm, bnext HBel.out hbk⟩
    | true =>
      by_cases hmv : markV i.key i.note.rho = pub
      · have c1 : (markV i.key i.note.rho == pub) = true := by rw [beq_iff_eq]; exact hmv
        have c1' : (markV i.key i.note.rho != pub) = false := by rw [bne_eq_false_iff_eq]; exact hmv
        have HU3 : Hid (checkInE s.anchor i pub = if i.dummy = true then (if i.note.value = 0 then 0 else 13) else (if noteB i.note = true ∧ climbS (commitV i.note) i.position i.path = s.anchor then 0 else 11)) := by show _ = _; rw [HU2.out, if_pos ⟨hmk, hmv⟩]
        clear HU2 hmv
        generalize markV i.key i.note.rho = mv at *
        cases hdm : i.dummy with
        | true =>
          rw [hdm] at x0
          by_cases hvz : i.note.value = 0
          · have c2 : (i.note.value == 0) = true := by rw [beq_iff_eq]; exact hvz
            have c2' : (i.note.value != 0) = false := by rw [bne_eq_false_iff_eq]; exact hvz
            have HF : Hid (checkInE s.anchor i pub = 0) := by show _ = _; rw [HU3.out, if_pos hdm, if_pos hvz]
            clear hvz
            go_wp2_with fail
            go_ret
            exact ⟨ret_int HF.out.symm, bnext HBel.out hbk⟩
          · have c2 : (i.note.value == 0) = false := by rw [beq_eq_false_iff_ne]; exact hvz
            have c2' : (i.note.value != 0) = true := by rw [bne_iff_ne]; exact hvz
            have HF : Hid (checkInE s.anchor i pub = 13) := by show _ = _; rw [HU3.out, if_pos hdm, if_neg hvz]
            clear hvz
            go_wp2_with fail
            go_ret
            exact ⟨ret_int HF.out.symm, bnext HBel.out hbk⟩
        | false =>
          rw [hdm] at x0
          have HU4 : Hid (checkInE s.anchor i pub = if noteB i.note = true ∧ climbS (commitV i.note) i.position i.path = s.anchor then 0 else 11) := by show _ = _; rw [HU3.out, if_neg (by rw [hdm]; simp)]
          go_wp2_with fail
          refine (commitment_any w2 p st (HO.out.keepB hbk) i.note HOK.out.note).mono ?_
          rintro e w3 ⟨rfl, hb3⟩
          have hbk3 := bnext hbk hb3
          clear x0 x1 hb3
          cases hnb : noteB i.note with
          | false =>
            have HF : Hid (checkInE s.anchor i pub = 11) := by show _ = _; rw [HU4.out, if_neg (fun h => by rw [hnb] at h; cases h.1)]
            go_wp2_with fail
            go_quiet (fail)
            go_wp2_with fail
            go_ret
            exact ⟨ret_int HF.out.symm, bnext HBel.out (bdrewN hbk3 _)⟩
          | true =>
            have xq := box_regrown (box_after hbk3 HBx.out)
            have yq := box_regrown (box_after hbk3 HA.out)
            rw [hdm] at xq
            have hcl : ∀ (d : Nat) (os : Array Obj), Calls Tryz.prog 104 #[.int .u64 (commitV i.note), .int .i64 i.position, .slice pa i.path.length pc] (grow (redrawn w3 d) os) fun e w' => e = .returned (.int .u64 (climbS (commitV i.note) i.position i.path)) ∧ Below (grow (redrawn w3 d) os).heap.size (grow (redrawn w3 d) os) w' := fun d os =>
              climb_any S _ (commitV i.note) i.position (commitV_ok _) pa pc i.path (numsR.keepB (numsR.keepB HP.out hbk3) (below_regrown w3 d os)) h1 h2 h3
            go_wp2_with fail
            refine wp_region_quiet_below (by kernel_rfl) (by kernel_rfl) ?_
            repeat (first | go_big_quiet_step (exact Calls.regrown_of (hcl _ _)) | quiet_step (exact Calls.regrown_of (hcl _ _)))
            refine wpQuiet_nil ?_
            intro w4 hw'
            obtain ⟨⟨dq, osq⟩, hw''⟩ := hw'
            have hb4 := below_regrown w3 dq osq
            rw [← hw''] at hb4
            clear hw'' xq yq hcl
            have hfin := bnext HBel.out (bnext hbk3 hb4)
            by_cases hcm : climbS (commitV i.note) i.position i.path = s.anchor
            · have c3 : (climbS (commitV i.note) i.position i.path == s.anchor) = true := by rw [beq_iff_eq]; exact hcm
              have c3' : (climbS (commitV i.note) i.position i.path != s.anchor) = false := by rw [bne_eq_false_iff_eq]; exact hcm
              have HF : Hid (checkInE s.anchor i pub = 0) := by show _ = _; rw [HU4.out, if_pos ⟨hnb, hcm⟩]
              clear hcm HU4 HU3
              generalize climbS (commitV i.note) i.position i.path = cl at *
              go_wp2_with fail
              go_ret
              exact ⟨ret_int HF.out.symm, hfin⟩
            · have c3 : (climbS (commitV i.note) i.position i.path == s.anchor) = false := by rw [beq_eq_false_iff_ne]; exact hcm
              have c3' : (climbS (commitV i.note) i.position i.path != s.anchor) = true := by rw [bne_iff_ne]; exact hcm
              have HF : Hid (checkInE s.anchor i pub = 11) := by show _ = _; rw [HU4.out, if_neg (fun h => hcm h.2)]
              clear hcm HU4 HU3
              generalize climbS (commitV i.note) i.position i.path = cl at *
              go_wp2_with fail
              go_ret
              exact ⟨ret_int HF.out.symm, hfin⟩
      · have c1 : (markV i.key i.note.rho == pub) = false := by rw [beq_eq_false_iff_ne]; exact hmv
        have c1' : (markV i.key i.note.rho != pub) = true := by rw [bne_iff_ne]; exact hmv
        have HF : Hid (checkInE s.anchor i pub = 12) := by show _ = _; rw [HU2.out, if_neg (fun h => hmv h.2)]
        clear HU2 hmv
        generalize markV i.key i.note.rho = mv at *
        go_wp2_with fail
        go_ret
        exact ⟨ret_int HF.out.symm, bnext HBel.out hbk⟩
  · have hb : (i.note.owner == ownerS i.key i.number) = false := by rw [beq_eq_false_iff_ne]; exact hown
    have hb' : (i.note.owner != ownerS i.key i.number) = true := by rw [bne_iff_ne]; exact hown
    have HF : Hid (checkInE s.anchor i pub = 21) := by show _ = _; rw [HU.out, if_neg hown]
    clear hown HU
    generalize ownerS i.key i.number = ow at *
    go_wp2_with fail
    go_ret
    exact ⟨ret_int HF.out.symm, bnext HBel.out hb1⟩
end Go.Proofs.YtdjcdejapkkcmaaGreatDoor
/- The reference's keys, paths, commitments, and one spent note. -/
/- The reference's reader: take, Value, Uint, Int, List. -/
namespace Go.Proofs.YtdjcdejapkkcmaaGreatDoor
open Go.ChangeShapes Go.WideShapes Go.ChangeAt Go.RowKit Go.Sort

theorem bytes_in {S : Nat → Prop} {w : World} {a : Option Addr} {len cap : Nat} {l : List Int} (h : bytesR.rel S w [.slice a len cap] l) : ∀ x ∈ l, 0 ≤ x ∧ x < 256 := by
  intro x hx
  obtain ⟨k, hk, rfl⟩ := List.getElem_of_mem hx
  obtain ⟨b, off, -, -, -, h1, h2, -⟩ := bytes_at h k hk
  exact ⟨h1, h2⟩
theorem pow256 : ∀ k : Fin 9, ((k.val ≤ 4 → (256 : Int) ^ k.val ≤ 4294967296) ∧ (256 : Int) ^ k.val ≤ 18446744073709551616) ∧ (k.val ≤ 7 → (256 : Int) ^ k.val ≤ 72057594037927936) := by decide +kernel
end Go.Proofs.YtdjcdejapkkcmaaGreatDoor
/- Appending a whole slice of numbers; storing one number into an owned row. Nothing of the program is named here; no conditions. -/
namespace Go.Proofs.YtdjcdejapkkcmaaGreatDoor
open Go.ChangeShapes Go.WideShapes Go.ChangeAt Go.RowKit

theorem wpList_cat {P : Program} {ops : Array Oper} {rest : List Oper} {o : Oper} {a : Act} {Q : Exit → Act → World → Prop} (hgd : o.guard = none) (s x : Operand) {t : TypeId}
    (ho : o.op = .call { callee := .builtin .append, args := #[s, x], argTypes := #[t, t] }) {k : IntKind} {e : TypeId} {bytes : Nat} (hT : ElemTy P t e 1 bytes) {S : Nat → Prop} {B : Nat} {w0 wr : World} {v u : Value} {xs ys : List Int}
    (hs : a.eval s = v) (hx : a.eval x = u)
    (hbr : Below B w0 wr) (hB : B ≤ wr.heap.size) (hor : Own (intR k) B e (fun x => False ∨ B ≤ x) wr v xs) (hu : (sliceR (intR k)).rel S wr [u] ys)
    (h63 : xs.length + ys.length ≤ maxLen) (hbytes : (xs.length + ys.length) * bytes ≤ 140737488355328)
    (hK : ∀ v' w', Own (intR k) B e (fun x => False ∨ B ≤ x) w' v' (xs ++ ys) → Below B w0 w' → wpList P ops Q rest (a.put o.dst v') w') :
    wpList P ops Q (o :: rest) a wr := by
  refine wpList_append_rel (r := intR k) (base := B) (F := fun x => False ∨ B ≤ x) (S := fun _ => False) (xs := xs) (ys := ys) hgd s x ho hT hs hx hor (Src.plain (Plain.int k) (Src.of_slice hu)) (fun _ _ h => h.elim) (fun _ _ h => h) h63 hbytes hB fun v' w' ho' hk' _ => hK v' w' ?_ ?_
  · refine ho'.mono fun j _ h => ?_
    rcases h with h | h
    · exact h
    · exact .inr (Nat.le_trans hB h)
  · exact Kept.behind hbr hk' hB fun j hj he => by
      have := (hor.lt he).2.2
      omega

end Go.Proofs.YtdjcdejapkkcmaaGreatDoor
/- The reference's bytes: Digits, Int, List, Bytes. -/
namespace Go.Proofs.YtdjcdejapkkcmaaGreatDoor
open Go.ChangeShapes Go.WideShapes Go.ChangeAt Go.RowKit Go.Sort

/-! The bytes of transactions; packed bytes. -/
def listS (l : List Int) : List Int := digs 4 l.length ++ digsAll l
def outS (o : OutM) : List Int := digsAll [o.commit, o.p0, o.p1] ++ listS o.cipher
def outsS : List OutM → List Int
  | [] => []
  | o :: l => outS o ++ outsS l
def encS (t : TxM) (proof : List Int) : List Int :=
  digs 8 t.anchor ++ listS t.marks ++ digs 4 t.outs.length ++ outsS t.outs ++ digsAll [t.dep, t.wd, t.fee, t.acc, t.nonce] ++ digs 4 t.exp ++ (digs 4 proof.length ++ proof)
theorem listS_len (l : List Int) : (listS l).length = 4 + 8 * l.length := by simp [listS, digs_len, digsAll_len]
theorem outsS_snoc : ∀ (l : List OutM) (o : OutM), outsS (l ++ [o]) = outsS l ++ outS o
  | [], o => by simp [outsS]
  | x :: l, o => by simp [outsS, outsS_snoc l o]
/-- The number of seven bytes from place j on. -/
def chunk (l : List Int) (j : Nat) : Int := leN ((l.drop (7 * j)).take 7)
def chunks (l : List Int) : List Int := (List.range ((l.length + 6) / 7)).map (chunk l)
def packS (l : List Int) : List Int := (l.length : Int) :: chunks l
theorem chunks_len (l : List Int) : (chunks l).length = (l.length + 6) / 7 := by simp [chunks]
theorem GrewTo.read {B : Nat} {w w' : World} {ys : List Int} {e : Ending} (h : GrewTo B w ys e w') : ∃ a cap, e = .returned (.slice a ys.length cap) ∧ Own u8R B 5 (fun x => False ∨ B ≤ x) w' (.slice a ys.length cap) (ys) ∧ bytesR.rel (fun _ => True) w' [.slice a ys.length cap] ys ∧ Below B w w' := by
  obtain ⟨v, rfl, ho, hb⟩ := h
  obtain ⟨a, cap, rfl, -, -⟩ := sliceR.form ho.slice
  exact ⟨a, cap, rfl, ho, bytesR.mono ho.slice fun _ _ _ => trivial, hb⟩
end Go.Proofs.YtdjcdejapkkcmaaGreatDoor
/- The program's packed bytes, exact. -/
namespace Go.Proofs.YtdjcdejapkkcmaaGreatDoor
open Go.ChangeShapes Go.WideShapes Go.ChangeAt Go.RowKit

def chunksTo (xs : List Int) (c : Nat) : List Int := (List.range c).map (chunk xs)
theorem chunksTo_len (xs : List Int) (c : Nat) : (chunksTo xs c).length = c := by simp [chunksTo]
theorem chunksTo_succ (xs : List Int) (c : Nat) : chunksTo xs (c + 1) = chunksTo xs c ++ [chunk xs c] := by simp [chunksTo, List.range_succ]
theorem leN_take_succ (xs : List Int) (k j : Nat) (h : k + j < xs.length) : leN ((xs.drop k).take (j + 1)) = leN ((xs.drop k).take j) + xs[k + j] * 256 ^ j := by
  rw [List.take_succ_eq_append_getElem (by simp; omega), leN_snoc, List.getElem_drop]
  have : ((xs.drop k).take j).length = j := by simp; omega
  rw [this]
set_option maxRecDepth 100000 in
set_option maxHeartbeats 3000000 in
theorem packX_any (S : Nat → Prop) (w : World) (a : Option Addr) (cap : Nat) (xs : List Int) (h : bytesR.rel S w [.slice a xs.length cap] xs) (hx : xs.length ≤ 3000000) :
    Calls Tryz.prog 191 #[.slice a xs.length cap] w fun e w' => ∃ a' c', e = .returned (.slice a' (packS xs).length c') ∧ numsR.rel (fun _ => True) w' [.slice a' (packS xs).length c'] (packS xs) ∧ Below w.heap.size w w' := by
  have H := Lib.hid h
  have HI := Lib.hid (bytes_in h)
  have g1 := (sliceR.lens h).2
  unfold maxLen at g1
  clear h
  go_enter Tryz.func191, Tryz.ntmps191
  go_wp2_with (at_make; refine wpList_make_lc rfl _ _ rfl Tryz.etyNums (n := 1) (m := 1 + (xs.length + 6) / 7) rfl rfl ?_ ?_ ?_ ?_ ?_ ?_)
  · rfl
  · omega
  · omega
  · omega
  · unfold maxLen; omega
  intro cur hcur w1 hg1 hb1 hz1
  obtain ⟨c0, rest, rfl⟩ : ∃ c0 rest, cur = c0 :: rest := by
    cases cur with
    | nil => exfalso; simp at hcur; omega
    | cons c r => exact ⟨c, r, rfl⟩
  obtain ⟨x0, x1⟩ := box_cells hg1
  have hw : IntKind.u64.wrap (xs.length : Int) = xs.length := by rw [IntKind.wrap_u64]; omega
  have hg2 := box_set (i := 0) (v := .int .u64 (xs.length : Int)) hg1
  have hg3 : (w1.setCell ⟨w.heap.size, 0, none⟩ (.int .u64 (xs.length : Int))).heap[w.heap.size]? = some (.cells ((.int .u64 (xs.length : Int)) :: rest).toArray 24 (0, 0)) := by simpa using hg2
  have hown := own_ints (k := .u64) (base := w.heap.size) (xs := [(xs.length : Int)]) hg3 hcur (by simp) (by intro x hx'; simp at hx'; subst hx'; exact okU_of (by omega) (by omega)) (by simp) (by unfold maxLen; omega) (Nat.le_refl _)
  have hb2 : Below w.heap.size w (w1.setCell ⟨w.heap.size, 0, none⟩ (.int .u64 (xs.length : Int))) := hb1.setCell (Nat.le_refl _) _
  have HOWN := Lib.hid hown
  have HB2 := Lib.hid hb2
  clear hown hb2 hg2 hg3 hg1
  go_wp2_with fail
  generalize w1.setCell ⟨w.heap.size, 0, none⟩ (.int .u64 (xs.length : Int)) = w2 at *
  go_loopw [3, 4] (fun vr vs wr => ∃ (c : Nat), 7 * c ≤ xs.length + 6 ∧ vs = .int .i64 (7 * c : Nat) ∧ Own u64R w.heap.size 24 (fun x => False ∨ w.heap.size ≤ x) wr vr ((xs.length : Int) :: chunksTo xs c) ∧ Below w.heap.size w wr ∧ w.heap.size ≤ wr.heap.size) (fun _ vs _ => xs.length + 8 - (intOf vs).toNat)
  case atStart => exact ⟨0, by omega, rfl, by simpa [chunksTo] using HOWN.out, HB2.out, HB2.out.size⟩
  case round =>
    obtain ⟨c, hk7, rfl, hor, hbr, hsz⟩ := hrel
    have hcl : ((xs.length : Int) :: chunksTo xs c).length = c + 1 := by rw [List.length_cons, chunksTo_len]
    have HSN := Lib.hid (chunksTo_succ xs c)
    obtain ⟨k, hkc⟩ : ∃ k, 7 * c = k := ⟨_, rfl⟩
    have HKC := Lib.hid hkc
    rw [hkc] at hk7 ⊢
    obtain ⟨ns, hns⟩ : ∃ ns, (xs.length : Int) :: chunksTo xs c = ns := ⟨_, rfl⟩
    have HNS := Lib.hid hns
    rw [hns] at hor hcl
    have hc7 : 7 * ns.length ≤ k + 7 := by omega
    clear hns hkc
    by_cases hlt : k < xs.length
    · have hpos : 0 < xs.length := by omega
      obtain ⟨b, off, rfl, -, -, -, -, -⟩ := bytes_at H.out 0 hpos
      by_cases h7 : k + 7 ≤ xs.length
      · have h7i : ¬ ((xs.length : Int) < (k : Int) + 7) := by omega
        have HOR := Lib.hid hor
        clear hor
        go_wp2_with fail
        have hMx : k + 7 ≤ xs.length := h7
        go_loop [6, 37] (fun vn vi => ∃ (j : Nat), j ≤ 7 ∧ vi = .int .i64 j ∧ vn = .int .u64 (leN ((xs.drop k).take j))) (fun _ vi => 7 - (intOf vi).toNat)
        case atStart => exact ⟨0, Nat.zero_le _, rfl, by rw [List.take_zero]; rfl⟩
        case round =>
          obtain ⟨j, hj, rfl, rfl⟩ := hrel
          have hin := leN_in ((xs.drop k).take j) fun d hd => HI.out d (List.mem_of_mem_drop (List.mem_of_mem_take hd))
          have hlj : ((xs.drop k).take j).length = j := by simp; omega
          rw [hlj] at hin
          by_cases hjl : j < 7
          · obtain ⟨b', off', hbo, -, -, d0, d1, hc⟩ := bytes_at (bytesR.keepB H.out hbr) (k + j) (by omega)
            simp at hbo
            obtain ⟨rfl, rfl⟩ := hbo
            rw [← Nat.add_assoc] at hc
            have HST := Lib.hid (leN_take_succ xs k j (by omega))
            have hor := or_step (m := leN ((xs.drop k).take j)) (x := xs[k + j]) j (by omega) hin.1 hin.2 d0 d1
            rw [← HST.out] at hor
            have HORS := Lib.hid hor
            generalize xs[k + j] = x at *
            generalize leN ((xs.drop k).take j) = n at *
            clear hor hin hlj
            go_wp2_with fail
            go_round
            case rel => exact ⟨j + 1, by omega, by go_num, by rw [HORS.out]⟩
            case measure => simp [intOf]; omega
          · obtain rfl : j = 7 := by omega
            have hp := (pow256 ⟨7, by omega⟩).1.2
            simp only at hp
            have HCH : Hid (chunk xs c = leN ((xs.drop k).take 7)) := by
              show _ = _
              unfold chunk
              rw [HKC.out]
            have HY : Hid (u64R.rel (fun _ => False) wr [.int .u64 (leN ((xs.drop k).take 7))] (leN ((xs.drop k).take 7))) := ⟨rfl, okU_of hin.1 (by omega)⟩
            have HLEN : Hid (ns.length + 1 ≤ maxLen ∧ (ns.length + 1) * 8 ≤ 140737488355328) := by unfold maxLen; constructor <;> omega
            have HE : Hid ((xs.length : Int) :: chunksTo xs (c + 1) = ns ++ [leN ((xs.drop k).take 7)]) := by show _ = _; rw [HSN.out, HCH.out, ← HNS.out]; rfl
            have HK2 : Hid (7 * (c + 1) = k + 7) := by show _ = _; have := HKC.out; omega
            generalize leN ((xs.drop k).take 7) = n at *
            go_wp2_with (at_builtin; refine wpList_push (r := u64R) (wr := wr) (es := [.int .u64 n]) (v := u3) (w0 := w) (B := w.heap.size) rfl _ _ rfl Tryz.etyNums rfl rfl hbr hsz HOR.out HY.out (fun x hx => hx.elim) HLEN.out.1 HLEN.out.2 ?_)
            intro v2 w3 ho3 hb3
            have ho4 := Own.mono ho3 (F' := fun x => False ∨ w.heap.size ≤ x) fun x _ h => by first | exact h | exact .inr h
            rw [← HE.out] at ho4
            have HZ := Lib.hid ho4
            clear ho3 ho4
            go_wp2_with fail
            go_roundw
            case rel => exact ⟨c + 1, by have := HK2.out; omega, by rw [HK2.out]; go_num, HZ.out, hb3, hb3.size⟩
            case measure => simp [intOf]; omega
      · have h7i : (xs.length : Int) < (k : Int) + 7 := by omega
        have HOR := Lib.hid hor
        clear hor
        go_wp2_with fail
        obtain ⟨M, hM⟩ : ∃ M, xs.length - k = M := ⟨_, rfl⟩
        rw [hM]
        have hM7 : M ≤ 7 := by omega
        have hMx : k + M ≤ xs.length := by omega
        have hMl : xs.length ≤ k + M := by omega
        clear hM
        go_loop [6, 37] (fun vn vi => ∃ (j : Nat), j ≤ M ∧ vi = .int .i64 j ∧ vn = .int .u64 (leN ((xs.drop k).take j))) (fun _ vi => M - (intOf vi).toNat)
        case atStart => exact ⟨0, Nat.zero_le _, rfl, by rw [List.take_zero]; rfl⟩
        case round =>
          obtain ⟨j, hj, rfl, rfl⟩ := hrel
          have hin := leN_in ((xs.drop k).take j) fun d hd => HI.out d (List.mem_of_mem_drop (List.mem_of_mem_take hd))
          have hlj : ((xs.drop k).take j).length = j := by simp; omega
          rw [hlj] at hin
          by_cases hjl : j < M
          · obtain ⟨b', off', hbo, -, -, d0, d1, hc⟩ := bytes_at (bytesR.keepB H.out hbr) (k + j) (by omega)
            simp at hbo
            obtain ⟨rfl, rfl⟩ := hbo
            rw [← Nat.add_assoc] at hc
            have HST := Lib.hid (leN_take_succ xs k j (by omega))
            have hor := or_step (m := leN ((xs.drop k).take j)) (x := xs[k + j]) j (by omega) hin.1 hin.2 d0 d1
            rw [← HST.out] at hor
            have HORS := Lib.hid hor
            generalize xs[k + j] = x at *
            generalize leN ((xs.drop k).take j) = n at *
            clear hor hin hlj
            go_wp2_with fail
            go_round
            case rel => exact ⟨j + 1, by omega, by go_num, by rw [HORS.out]⟩
            case measure => simp [intOf]; omega
          · obtain rfl : j = M := by omega
            have hp := (pow256 ⟨j, by omega⟩).1.2
            simp only at hp
            have HCH : Hid (chunk xs c = leN ((xs.drop k).take j)) := by
              show _ = _
              unfold chunk
              rw [HKC.out]
              rw [List.take_of_length_le (by simp; omega), List.take_of_length_le (by simp; omega)]
            have HY : Hid (u64R.rel (fun _ => False) wr [.int .u64 (leN ((xs.drop k).take j))] (leN ((xs.drop k).take j))) := ⟨rfl, okU_of hin.1 (by omega)⟩
            have HLEN : Hid (ns.length + 1 ≤ maxLen ∧ (ns.length + 1) * 8 ≤ 140737488355328) := by unfold maxLen; constructor <;> omega
            have HE : Hid ((xs.length : Int) :: chunksTo xs (c + 1) = ns ++ [leN ((xs.drop k).take j)]) := by show _ = _; rw [HSN.out, HCH.out, ← HNS.out]; rfl
            have HK2 : Hid (7 * (c + 1) = k + 7) := by show _ = _; have := HKC.out; omega
            generalize leN ((xs.drop k).take j) = n at *
            go_wp2_with (at_builtin; refine wpList_push (r := u64R) (wr := wr) (es := [.int .u64 n]) (v := u3) (w0 := w) (B := w.heap.size) rfl _ _ rfl Tryz.etyNums rfl rfl hbr hsz HOR.out HY.out (fun x hx => hx.elim) HLEN.out.1 HLEN.out.2 ?_)
            intro v2 w3 ho3 hb3
            have ho4 := Own.mono ho3 (F' := fun x => False ∨ w.heap.size ≤ x) fun x _ h => by first | exact h | exact .inr h
            rw [← HE.out] at ho4
            have HZ := Lib.hid ho4
            clear ho3 ho4
            go_wp2_with fail
            go_roundw
            case rel => exact ⟨c + 1, by have := HK2.out; omega, by rw [HK2.out]; go_num, HZ.out, hb3, hb3.size⟩
            case measure => simp [intOf]; omega
    · have HC : Hid (ns = packS xs) := by
        show _ = _
        have h1 : c = (xs.length + 6) / 7 := by have := HKC.out; omega
        subst h1; exact HNS.out.symm
      rw [HC.out] at hor
      obtain ⟨a2, c2, rfl, -, -⟩ := sliceR.form hor.slice
      have HS := Lib.hid (numsR.mono hor.slice (S' := fun _ => True) fun _ _ _ => trivial)
      clear hor
      go_wp2_with fail
      go_ret
      exact ⟨a2, c2, rfl, HS.out, hbr⟩

set_option maxRecDepth 100000 in
theorem hashBytesX_any (S : Nat → Prop) (w : World) (label : Int) (hl0 : 0 ≤ label) (a : Option Addr) (len cap : Nat) (xs : List Int) (hlen : len = xs.length) (h : bytesR.rel S w [.slice a len cap] xs) (hx : xs.length ≤ 3000000) :
    Calls Tryz.prog 128 #[.int .u64 label, .slice a len cap] w fun e w' => e = .returned (.int .u64 (hashS label (packS xs))) ∧ Below w.heap.size w w' := by
  subst hlen
  have hpl : (packS xs).length ≤ 1000000 := by
    show ((xs.length : Int) :: chunks xs).length ≤ _
    rw [List.length_cons, chunks_len]; omega
  go_enter Tryz.func128, Tryz.ntmps128
  go_wp2_with fail
  refine (packX_any S w a cap xs h hx).mono ?_
  rintro e w1 ⟨a1, c1, rfl, hr1, hb1⟩
  have HR1 := Lib.hid hr1
  have HPL := Lib.hid hpl
  clear hr1 hpl
  obtain ⟨l, hl⟩ : ∃ l, packS xs = l := ⟨_, rfl⟩
  have HL := Lib.hid hl
  rw [hl] at HR1 HPL ⊢
  clear hl
  go_wp2_with fail
  refine (Hash_big label hl0 (fun _ => True) w1 a1 c1 l HR1.out HPL.out).mono ?_
  rintro e w2 ⟨rfl, hb2⟩
  go_wp2_with fail
  go_ret
  exact ⟨ret_int (by rw [HL.out]), bnext hb1 hb2⟩
end Go.Proofs.YtdjcdejapkkcmaaGreatDoor
/- The reference's transactions: what is well-formed, the origin. -/
/- The reference's bytes of a transaction. -/
