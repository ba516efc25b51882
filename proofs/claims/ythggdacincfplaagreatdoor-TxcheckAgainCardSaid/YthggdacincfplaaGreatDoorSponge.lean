/- The sponge at the big prime: absorb, Hash. -/
import Derived.Test.YthggdacincfplaaGreatDoorPermB
import Derived.Deep.Cut
import Derived.Deep.CutRange
import Derived.Test.YthggdacincfplaaGreatDoorSpec
namespace Go.Proofs.YthggdacincfplaaGreatDoor
open Go.ChangeShapes Go.WideShapes Go.ChangeAt Go.RowKit Go.Sort

/-- Zeros at block B, the prime behind them, the state at block q; blocks below B are as they were. -/
def AbsAt (w : World) (q : Nat) (s : T3) (wr : World) : Prop :=
  Below w.heap.size w wr ∧ wr.heap[w.heap.size]? = some (.cells #[.int .u64 0, .int .u64 0, .int .u64 0] 216 (0, 0)) ∧ wr.heap[w.heap.size + 1]? = some (.cells #[.int .u64 18446744069414584321] 169 (0, 0)) ∧
    wr.heap[q]? = some (.cells #[.int .u64 s.1, .int .u64 s.2.1, .int .u64 s.2.2] 216 (0, 0)) ∧ w.heap.size + 1 < q
theorem AbsAt.next {w w1 w2 : World} {q : Nat} {s : T3} (h : AbsAt w q s w1) (hb : Below w1.heap.size w1 w2) : AbsAt w q s w2 :=
  ⟨bnext h.1 hb, box_after hb h.2.1, box_after hb h.2.2.1, box_after hb h.2.2.2.1, h.2.2.2.2⟩
theorem AbsAt.store {w wr : World} {q : Nat} {s : T3} (h : AbsAt w q s wr) (t : T3) : AbsAt w q t (((wr.setCell ⟨q, 0, none⟩ (.int .u64 t.1)).setCell ⟨q, 1, none⟩ (.int .u64 t.2.1)).setCell ⟨q, 2, none⟩ (.int .u64 t.2.2)) := by
  obtain ⟨h1, h2, h3, h4, h5⟩ := h
  have e0 : w.heap.size ≠ q := by omega
  have e1 : w.heap.size + 1 ≠ q := by omega
  have hq : w.heap.size ≤ q := by omega
  exact ⟨((h1.setCell hq _).setCell hq _).setCell hq _, box_set_far (box_set_far (box_set_far h2 e0) e0) e0, box_set_far (box_set_far (box_set_far h3 e1) e1) e1, box_set (box_set (box_set h4)), h5⟩
theorem AbsAt.one {w wr : World} {q : Nat} {s t : T3} (h : AbsAt w q s wr) (i : Nat) (v : Value) (ht : (#[.int .u64 s.1, .int .u64 s.2.1, .int .u64 s.2.2] : Array Value).setIfInBounds i v = #[.int .u64 t.1, .int .u64 t.2.1, .int .u64 t.2.2]) : AbsAt w q t (wr.setCell ⟨q, i, none⟩ v) := by
  obtain ⟨h1, h2, h3, h4, h5⟩ := h
  have e0 : w.heap.size ≠ q := by omega
  have e1 : w.heap.size + 1 ≠ q := by omega
  exact ⟨h1.setCell (by show w.heap.size ≤ q; omega) _, box_set_far h2 e0, box_set_far h3 e1, ht ▸ box_set h4, h5⟩
theorem AbsAt.start {w wq : World} {a b : Obj} {v0 v1 v2 : Int} (ha : a = .cells #[.int .u64 0, .int .u64 0, .int .u64 0] 216) (hb : b = .cells #[.int .u64 18446744069414584321] 169)
    (h : Below ((w.alloc a).alloc b).heap.size ((w.alloc a).alloc b) wq) : AbsAt w wq.heap.size (v0, v1, v2) (wq.alloc (.cells #[.int .u64 v0, .int .u64 v1, .int .u64 v2] 216)) := by
  subst ha hb
  have e1 : (w.alloc (.cells #[.int .u64 0, .int .u64 0, .int .u64 0] 216)).heap.size = w.heap.size + 1 := World.size_alloc ..
  have q1 := box_old (o' := .cells #[.int .u64 18446744069414584321] 169) (box_new w (.cells #[.int .u64 0, .int .u64 0, .int .u64 0] 216))
  have q2 := box_new (w.alloc (.cells #[.int .u64 0, .int .u64 0, .int .u64 0] 216)) (.cells #[.int .u64 18446744069414584321] 169)
  rw [e1] at q2
  have hz := h.size
  rw [World.size_alloc, e1] at hz
  exact ⟨bnew (bnext (bnew (bnew (Below.refl _ _) _) _) h) _, box_old (box_after h q1), box_old (box_after h q2), box_new _ _, by omega⟩

/-- Zeros at block B, the prime behind them; blocks below B are as they were. -/
abbrev AbsS (w w' : World) : Prop :=
  Below w.heap.size w w' ∧ w.heap.size + 1 < w'.heap.size ∧ (∀ o, w'.cell? ⟨w.heap.size + 1, o, none⟩ = (#[.int .u64 18446744069414584321] : Array Value)[o]?) ∧
    w'.heap[w.heap.size]? = some (.cells #[.int .u64 0, .int .u64 0, .int .u64 0] 216 (0, 0)) ∧ w'.heap[w.heap.size + 1]? = some (.cells #[.int .u64 18446744069414584321] 169 (0, 0))
theorem AbsS.of {w w' : World} (h1 : Below w.heap.size w w') (h2 : w'.heap[w.heap.size]? = some (.cells #[.int .u64 0, .int .u64 0, .int .u64 0] 216 (0, 0))) (h3 : w'.heap[w.heap.size + 1]? = some (.cells #[.int .u64 18446744069414584321] 169 (0, 0))) : AbsS w w' :=
  ⟨h1, box_lt h3, (box_cells h3).1, h2, h3⟩
theorem AbsS.start (w : World) : AbsS w ((w.alloc (.cells #[.int .u64 0, .int .u64 0, .int .u64 0] 216)).alloc (.cells #[.int .u64 18446744069414584321] 169)) := by
  have e1 : (w.alloc (.cells #[.int .u64 0, .int .u64 0, .int .u64 0] 216)).heap.size = w.heap.size + 1 := World.size_alloc ..
  have q1 := box_old (o' := .cells #[.int .u64 18446744069414584321] 169) (box_new w (.cells #[.int .u64 0, .int .u64 0, .int .u64 0] 216))
  have q2 := box_new (w.alloc (.cells #[.int .u64 0, .int .u64 0, .int .u64 0] 216)) (.cells #[.int .u64 18446744069414584321] 169)
  rw [e1] at q2
  exact AbsS.of (bnew (bnew (Below.refl _ _) _) _) q1 q2
theorem AbsS.drew {w w' : World} (h : AbsS w w') : AbsS w w'.drew := ⟨h.1.drew, h.2.1, h.2.2.1, h.2.2.2.1, h.2.2.2.2⟩
theorem AbsS.next {w w1 w2 : World} (h : AbsS w w1) (hb : Below w1.heap.size w1 w2) : AbsS w w2 := AbsS.of (bnext h.1 hb) (box_after hb h.2.2.2.1) (box_after hb h.2.2.2.2)
theorem AbsS.alloc {w w1 : World} (h : AbsS w w1) (o : Obj) : AbsS w (w1.alloc o) := h.next (bnew (Below.refl _ _) o)
theorem AbsS.store {w w1 : World} (h : AbsS w w1) {q : Nat} (hq : w.heap.size + 1 < q) (x y z : Value) : AbsS w (((w1.setCell ⟨q, 0, none⟩ x).setCell ⟨q, 1, none⟩ y).setCell ⟨q, 2, none⟩ z) := by
  obtain ⟨h1, h2, h3, h4, h5⟩ := h
  have e0 : w.heap.size ≠ q := by omega
  have e1 : w.heap.size + 1 ≠ q := by omega
  have hl : w.heap.size ≤ q := by omega
  exact AbsS.of (((h1.setCell hl _).setCell hl _).setCell hl _) (box_set_far (box_set_far (box_set_far h4 e0) e0) e0) (box_set_far (box_set_far (box_set_far h5 e1) e1) e1)

set_option maxRecDepth 100000 in
set_option maxHeartbeats 4000000 in
theorem absorb_big (label : Int) (hl0 : 0 ≤ label) (S : Nat → Prop) (w : World) (a : Option Addr) (cap : Nat) (l : List Int) (h : numsR.rel S w [.slice a l.length cap] l) (hlen : l.length ≤ 1000000) :
    Calls Tryz.prog 109 #[.int .u64 18446744069414584321, .int .u64 label, .slice a l.length cap] w
      fun e w' => e = .returned (.agg #[.int .u64 (absorbS label l).1, .int .u64 (absorbS label l).2.1, .int .u64 (absorbS label l).2.2]) ∧ Below w.heap.size w w' := by
  have H := Lib.hid h
  clear h
  have m0 := mulP_in label 65536
  have l0 : (0 : Int) ≤ l.length := by omega
  have hwr : IntKind.u64.wrap (l.length : Int) = l.length := by rw [IntKind.wrap_u64]; omega
  have hst := AbsS.start w
  go_enter Tryz.func109, Tryz.ntmps109
  go_wp2_with fail
  go_cut [8] from 10 (fun v8 wc => ∃ q, v8 = .pointer (some ⟨q, 0, none⟩) ∧ AbsAt w q (absStart label l.length) wc)
  case first =>
    generalize (w.alloc (.cells #[.int .u64 0, .int .u64 0, .int .u64 0] 216)).alloc (.cells #[.int .u64 18446744069414584321] 169) = W at hst ⊢
    have hzW := hst.2.1
    have HST := Lib.hid hst
    clear hst
    go_region_held3 (fun w' => Below w.heap.size w w' ∧ w.heap.size + 1 < w'.heap.size ∧ (∀ o, w'.cell? ⟨w.heap.size + 1, o, none⟩ = (#[.int .u64 18446744069414584321] : Array Value)[o]?) ∧
    w'.heap[w.heap.size]? = some (.cells #[.int .u64 0, .int .u64 0, .int .u64 0] 216 (0, 0)) ∧ w'.heap[w.heap.size + 1]? = some (.cells #[.int .u64 18446744069414584321] 169 (0, 0)))
      (first
        | with_reducible exact AbsS.drew HST.out
        | with_reducible exact HMM.out
        | with_reducible exact HMA.out
        | with_reducible exact AbsS.alloc HMA.out _
        | with_reducible exact AbsS.alloc HMM.out _
        | with_reducible exact AbsS.drew (AbsS.alloc HST.out _)
        | with_reducible exact AbsS.store HMA.out hzW _ _ _
        | with_reducible exact AbsS.store HMA.out hzM _ _ _)
      (first
        | (go_at_call 168; refine (Mul_big label 65536 hl0 (by omega) _).mono ?_; rintro e w2 ⟨rfl, hbM⟩
           have HMM := Lib.hid (AbsS.next (‹Below w.heap.size w _ ∧ _ < _ ∧ _› : AbsS w _) hbM); have hzM := HMM.out.2.1)
        | (go_at_call_of 153 (Value.int IntKind.u64 (l.length : Int)); refine (Add_big (mulP label 65536) l.length m0.1 l0 _).mono ?_; rintro e w3 ⟨rfl, hbA⟩
           have HMA := Lib.hid (AbsS.next (‹Below w.heap.size w _ ∧ _ < _ ∧ _› : AbsS w _) hbA)
           first
             | (have hqA : w3.heap[W.heap.size]? = _ := box_after hbA (box_after hbM (box_new W (.cells #[.int .u64 0, .int .u64 0, .int .u64 0] 216))); obtain ⟨k0, k1⟩ := box_cells hqA; have HQ := Lib.hid hqA; clear hqA)
             | (have hqA : w3.heap[w2.heap.size]? = _ := box_after hbA (box_new w2 _); obtain ⟨k0, k1⟩ := box_cells hqA; have HQ := Lib.hid hqA; clear hqA)
             | have hzA := HMA.out.2.1))
    · go_wp2_with fail
      go_meet
      case rel => exact ⟨w3.heap.size, rfl, HMA.out.1.new _, box_old HMA.out.2.2.2.1, box_old HMA.out.2.2.2.2, box_new _ _, hzA⟩
    · have hh := AbsS.store HMA.out hzM (.int .u64 0) (.int .u64 0) (.int .u64 (addP (mulP label 65536) l.length))
      have HN := Lib.hid hh
      clear hh
      go_wp2_with fail
      go_meet
      case rel => exact ⟨w2.heap.size, rfl, HN.out.1, HN.out.2.2.2.1, HN.out.2.2.2.2, box_set (box_set (box_set HQ.out)), hzM⟩
    · have hh := AbsS.store HMA.out hzW (.int .u64 0) (.int .u64 0) (.int .u64 (addP (mulP label 65536) l.length))
      have HN := Lib.hid hh
      clear hh
      go_wp2_with fail
      go_meet
      case rel => exact ⟨W.heap.size, rfl, HN.out.1, HN.out.2.2.2.1, HN.out.2.2.2.2, box_set (box_set (box_set HQ.out)), hzW⟩
  case rest =>
    obtain ⟨q, rfl, hq⟩ := hcut
    clear hst m0 l0 hwr
    have HSW := Lib.hid (absStart_words label l.length)
    have HQ := Lib.hid hq
    obtain ⟨x0, x1⟩ := box_cells hq.2.2.2.1
    clear hq
    by_cases hl0' : l.length = 0
    · have HR : Hid (absorbS label l = permS (absStart label l.length)) := by show _ = _; unfold absorbS; rw [if_pos hl0', hl0']
      generalize absStart label l.length = s at *
      go_wp2_with fail
      refine (permute_big s HSW.out _).mono ?_
      rintro e w3 ⟨rfl, hb3⟩
      have h3 := HQ.out.next hb3
      have HB := Lib.hid h3.1
      obtain ⟨y0, y1⟩ := box_cells h3.2.1
      clear h3
      generalize permS s = t at *
      obtain ⟨r0, r1, r2⟩ := read3 (x := .int .u64 t.1) (y := .int .u64 t.2.1) (z := .int .u64 t.2.2) (y0 0) (y0 1) (y0 2)
      go_wp2_with fail
      refine bodyPost_ret (v := .agg #[.int .u64 t.1, .int .u64 t.2.1, .int .u64 t.2.2]) (by simp [results, Tryz.results109, go_sem, r0, r1, r2]) rfl ⟨by rw [HR.out], ?_⟩
      exact ((HB.out.setCell (Nat.le_refl _) _).setCell (Nat.le_refl _) _).setCell (Nat.le_refl _) _
    · have HT : Hid (absorbS label l = absLoop (absStart label l.length) l) := by show _ = _; unfold absorbS; rw [if_neg hl0']
      generalize absStart label l.length = s0 at *
      clear x0 x1
      have hne : ((l.length : Int) == 0) = false := by rw [beq_eq_false_iff_ne]; omega
      go_wp2_with fail
      go_loopw [9] (fun vi wr => ∃ (i : Nat) (s : T3), i ≤ l.length + 1 ∧ vi = .int .i64 i ∧ Words3 s ∧ AbsAt w q s wr ∧ Hid (absLoop s (l.drop i) = absLoop s0 l)) (fun vi _ => l.length + 2 - (intOf vi).toNat)
      case atStart => exact ⟨0, s0, by omega, rfl, HSW.out, HQ.out, rfl⟩
      case round =>
        obtain ⟨i, s, hi, rfl, hws, hat, hinv⟩ := hrel
        by_cases hlt : i < l.length
        · obtain ⟨b, off, rfl, hbl, e0, en, hc⟩ := nums_at H.out i hlt
          have sn : 0 ≤ s.1 := by unfold Words3 at hws; omega
          have sm : 0 ≤ s.2.1 := by unfold Words3 at hws; omega
          have i0 : (0 : Int) ≤ (i : Int) := by omega
          have i1 : (i : Int) < (l.length : Int) := by omega
          have sa := addP_word s.1 l[i]
          by_cases hlt2 : i + 1 < l.length
          · have HS := Lib.hid (absLoop_two s l i hlt2)
            obtain ⟨b2, off2, hbo, hbl2, f0, fn, hc2⟩ := nums_at H.out (i + 1) hlt2
            simp at hbo
            obtain ⟨rfl, rfl⟩ := hbo
            have HC2 := Lib.hid hc2
            clear hc2
            have i2 : (i : Int) + 1 < (l.length : Int) := by omega
            have i3 : (0 : Int) ≤ (i : Int) + 1 := by omega
            have i4 : ((i : Int) + 1).toNat = i + 1 := by omega
            have hw1 : IntKind.i64.wrap ((i : Int) + 1) = (i : Int) + 1 := by rw [IntKind.wrap_i64]; omega
            have sb := addP_word s.2.1 l[i + 1]
            generalize l[i] = m at *
            generalize l[i + 1] = m2 at *
            have HI : Hid (absLoop (permS (addP s.1 m, addP s.2.1 m2, s.2.2)) (l.drop (i + 2)) = absLoop s0 l) := by show _ = _; rw [← HS.out, hinv.out]
            have NW : Hid (Words3 (addP s.1 m, addP s.2.1 m2, s.2.2)) := by unfold Words3 at hws; exact ⟨sa, sb, hws.2.2⟩
            have HAT := Lib.hid hat
            have hci := (hat.1.cell (p := ⟨b, off + i, none⟩) hbl).trans hc
            have x0 := box_regrown hat.2.2.1
            have y0 := box_regrown hat.2.2.2.1
            have z0 := cell_in hci
            clear hat hci
            go_wp2_with fail
            refine wp_region_quiet_tail 9 (by kernel_rfl) (by kernel_rfl) ?_
            simp only [List.take_succ_cons, List.take_zero, List.drop_succ_cons, List.drop_zero]
            repeat (first | go_big_quiet_step (exact Calls.regrown_of (Add_big s.1 m sn e0 _)) | quiet_step (exact Calls.regrown_of (Add_big s.1 m sn e0 _)))
            refine wpQuiet_nil ?_
            intro wq hw'
            obtain ⟨⟨dq, osq⟩, hw''⟩ := hw'
            have hbq := below_regrown wr dq osq
            rw [← hw''] at hbq
            clear hw'' x0 y0 z0
            have p1 := HAT.out.next hbq
            obtain ⟨c0, c1⟩ := box_cells p1.2.2.2.1
            have P2 := Lib.hid (AbsAt.one (t := (addP s.1 m, s.2.1, s.2.2)) p1 0 (.int .u64 (addP s.1 m)) rfl)
            clear p1
            go_wp2_with fail
            generalize wq.setCell ⟨q, 0, none⟩ (.int .u64 (addP s.1 m)) = wx at P2 ⊢
            clear c0 c1
            have hcx := (P2.out.1.cell (p := ⟨b, off + (i + 1), none⟩) hbl2).trans HC2.out
            have x0 := box_regrown P2.out.2.2.1
            have y0 := box_regrown P2.out.2.2.2.1
            have z0 := cell_in hcx
            clear hcx
            refine wp_region_quiet_tail 10 (by kernel_rfl) (by kernel_rfl) ?_
            simp only [List.take_succ_cons, List.take_zero, List.drop_succ_cons, List.drop_zero]
            repeat (first | go_big_quiet_step (exact Calls.regrown_of (Add_big s.2.1 m2 sm f0 _)) | quiet_step (exact Calls.regrown_of (Add_big s.2.1 m2 sm f0 _)))
            refine wpQuiet_nil ?_
            intro wq2 hw'
            obtain ⟨⟨dq2, osq2⟩, hw''⟩ := hw'
            have hbq2 := below_regrown wx dq2 osq2
            rw [← hw''] at hbq2
            clear hw'' x0 y0 z0
            have p1 := P2.out.next hbq2
            obtain ⟨c0, c1⟩ := box_cells p1.2.2.2.1
            have PX := Lib.hid (AbsAt.one (t := (addP s.1 m, addP s.2.1 m2, s.2.2)) p1 1 (.int .u64 (addP s.2.1 m2)) rfl)
            clear p1
            go_wp2_with fail
            refine (permute_big (addP s.1 m, addP s.2.1 m2, s.2.2) NW.out _).mono ?_
            rintro e w5 ⟨rfl, hb5⟩
            have p5 := PX.out.next hb5
            clear c0 c1
            obtain ⟨c0, c1⟩ := box_cells p5.2.2.2.1
            have HN := Lib.hid (AbsAt.store p5 (permS (addP s.1 m, addP s.2.1 m2, s.2.2)))
            clear p5
            go_wp2_with fail
            go_roundw
            case rel => exact ⟨i + 2, permS (addP s.1 m, addP s.2.1 m2, s.2.2), by omega, by go_num, permS_words _, HN.out, HI⟩
            case measure => simp [intOf]; omega
          · have HS := Lib.hid (absLoop_one s l i hlt (by omega))
            generalize l[i] = m at *
            have i2 : ¬ ((i : Int) + 1 < (l.length : Int)) := by omega
            have HI : Hid (absLoop (permS (addP s.1 m, s.2.1, s.2.2)) (l.drop (i + 2)) = absLoop s0 l) := by
              show _ = _
              rw [← hinv.out, HS.out, List.drop_of_length_le (by omega)]; rfl
            have NW : Hid (Words3 (addP s.1 m, s.2.1, s.2.2)) := by unfold Words3 at hws; exact ⟨sa, hws.2.1, hws.2.2⟩
            have HAT := Lib.hid hat
            have hci := (hat.1.cell (p := ⟨b, off + i, none⟩) hbl).trans hc
            have x0 := box_regrown hat.2.2.1
            have y0 := box_regrown hat.2.2.2.1
            have z0 := cell_in hci
            clear hat hci
            go_wp2_with fail
            refine wp_region_quiet_tail 9 (by kernel_rfl) (by kernel_rfl) ?_
            simp only [List.take_succ_cons, List.take_zero, List.drop_succ_cons, List.drop_zero]
            repeat (first | go_big_quiet_step (exact Calls.regrown_of (Add_big s.1 m sn e0 _)) | quiet_step (exact Calls.regrown_of (Add_big s.1 m sn e0 _)))
            refine wpQuiet_nil ?_
            intro wq hw'
            obtain ⟨⟨dq, osq⟩, hw''⟩ := hw'
            have hbq := below_regrown wr dq osq
            rw [← hw''] at hbq
            clear hw'' x0 y0 z0
            have p1 := HAT.out.next hbq
            obtain ⟨c0, c1⟩ := box_cells p1.2.2.2.1
            have PX := Lib.hid (AbsAt.one (t := (addP s.1 m, s.2.1, s.2.2)) p1 0 (.int .u64 (addP s.1 m)) rfl)
            clear p1
            go_wp2_with fail
            refine (permute_big (addP s.1 m, s.2.1, s.2.2) NW.out _).mono ?_
            rintro e w5 ⟨rfl, hb5⟩
            have p5 := PX.out.next hb5
            clear c0 c1
            obtain ⟨c0, c1⟩ := box_cells p5.2.2.2.1
            have HN := Lib.hid (AbsAt.store p5 (permS (addP s.1 m, s.2.1, s.2.2)))
            clear p5
            go_wp2_with fail
            go_roundw
            case rel => exact ⟨i + 2, permS (addP s.1 m, s.2.1, s.2.2), by omega, by go_num, permS_words _, HN.out, HI⟩
            case measure => simp [intOf]; omega
        · have HE : Hid (absorbS label l = s) := by
            show _ = _
            rw [HT.out, ← hinv.out, List.drop_of_length_le (by omega)]; rfl
          have HB := Lib.hid hat.1
          obtain ⟨y0, y1⟩ := box_cells hat.2.1
          obtain ⟨z0, z1⟩ := box_cells hat.2.2.2.1
          clear hat
          obtain ⟨r0, r1, r2⟩ := read3 (x := .int .u64 s.1) (y := .int .u64 s.2.1) (z := .int .u64 s.2.2) (y0 0) (y0 1) (y0 2)
          go_wp2_with fail
          refine bodyPost_ret (v := .agg #[.int .u64 s.1, .int .u64 s.2.1, .int .u64 s.2.2]) (by simp [results, Tryz.results109, go_sem, r0, r1, r2]) rfl ⟨by rw [HE.out], ?_⟩
          exact ((HB.out.setCell (Nat.le_refl _) _).setCell (Nat.le_refl _) _).setCell (Nat.le_refl _) _

theorem index3 (x y z : Int) (w : World) : (Instr.index 216 (.agg #[.int .u64 x, .int .u64 y, .int .u64 z]) (.int .i64 0)).run Tryz.prog w = .ok (.int .u64 x) w := by
  have hs : (Tryz.prog.info? 24).map (·.size) = some 1 := by kernel_rfl
  obtain ⟨i, hi, hz⟩ := Option.map_eq_some_iff.1 hs
  simp [Instr.index, asIntOf, run_underlying Tryz.underlying216, sizeOf, typeInfo, hi, hz, part, go_sem]
set_option maxRecDepth 100000 in
set_option maxHeartbeats 400000 in
theorem Hash_big (label : Int) (hl0 : 0 ≤ label) (S : Nat → Prop) (w : World) (a : Option Addr) (cap : Nat) (l : List Int) (h : numsR.rel S w [.slice a l.length cap] l) (hlen : l.length ≤ 1000000) :
    Calls Tryz.prog 56 #[.int .u64 18446744069414584321, .int .u64 label, .slice a l.length cap] w fun e w' => e = .returned (.int .u64 (hashS label l)) ∧ Below w.heap.size w w' := by
  have HH : Hid (hashS label l = (absorbS label l).1) := rfl
  go_enter Tryz.func56, Tryz.ntmps56
  go_wp2_with fail
  refine (valid_big _).mono ?_
  rintro e w1 ⟨rfl, hb1⟩
  go_wp2_with fail
  refine (absorb_big label hl0 S w1 a cap l (numsR.keepB h hb1) hlen).mono ?_
  rintro e w2 ⟨rfl, hb2⟩
  generalize absorbS label l = t at *
  have hix := index3 t.1 t.2.1 t.2.2
  go_wp2_with fail
  go_ret
  exact ⟨ret_int HH.out.symm, bnext hb1 hb2⟩
end Go.Proofs.YthggdacincfplaaGreatDoor
