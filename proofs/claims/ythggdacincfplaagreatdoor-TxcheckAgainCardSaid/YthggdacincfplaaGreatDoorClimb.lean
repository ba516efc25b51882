/- Paths; notes that may be spent; sums. -/
import Derived.Test.YthggdacincfplaaGreatDoorNote
namespace Go.Proofs.YthggdacincfplaaGreatDoor
open Go.ChangeShapes Go.WideShapes Go.ChangeAt Go.RowKit

set_option maxRecDepth 100000 in
set_option maxHeartbeats 3000000 in
theorem climb_any (S : Nat → Prop) (w : World) (leaf pos : Int) (hl : okU leaf) (a : Option Addr) (cap : Nat) (path : List Int) (h : numsR.rel S w [.slice a path.length cap] path) (hlen : path.length ≤ 12) (p0 : 0 ≤ pos) (p1 : pos ≤ 4095) :
    Calls Tryz.prog 97 #[.int .u64 leaf, .int .i64 pos, .slice a path.length cap] w fun e w' => e = .returned (.int .u64 (climbS leaf pos path)) ∧ Below w.heap.size w w' := by
  have H := Lib.hid h
  have HW := Lib.hid hl
  obtain ⟨l0, l1⟩ := okU_in hl
  clear h hl
  obtain ⟨e1, e2, e3⟩ := pow12 ⟨path.length, by omega⟩
  simp only at e1 e2 e3
  have g12 : ¬ (12 : Int) < (path.length : Int) := by omega
  by_cases hp : pos < 2 ^ path.length
  · by_cases hlf : leaf < 18446744069414584321
    · have HC : Hid (climbS leaf pos path = if elemsB path = true then climbTo leaf pos path path.length else 0) := by
        show _ = _
        unfold climbS
        by_cases he : elemsB path = true
        · rw [if_pos ⟨hlen, p0, hp, hlf, he⟩, if_pos he]
        · rw [if_neg (fun h => he h.2.2.2.2), if_neg he]
      generalize hP2 : (2 : Int) ^ path.length = P2 at *
      go_enter Tryz.func97, Tryz.ntmps97
      go_wp2_with fail
      go_loop [32] (fun i => ∃ k : Nat, k ≤ path.length ∧ i = .int .i64 k ∧ Hid (allUp (fun k => elemB (path.getD k 0)) k = true)) (fun i => path.length - (intOf i).toNat)
      case atStart => exact ⟨0, Nat.zero_le _, rfl, rfl⟩
      case round =>
        obtain ⟨k, hk, rfl, hall⟩ := hrel
        by_cases hlt : k < path.length
        · obtain ⟨b, off, rfl, hbl, n0, n1, hc⟩ := nums_at H.out k hlt
          have hg := Lib.hid (getD_at path 0 k hlt)
          generalize path[k] = n at *
          by_cases hpn : n < 18446744069414584321
          · have HY : Hid (allUp (fun k => elemB (path.getD k 0)) (k + 1) = true) := allUp_step hall.out (by rw [hg.out]; exact decide_eq_true hpn)
            go_wp2_with fail
            go_round
            case rel => exact ⟨k + 1, by omega, by go_num, HY⟩
            case measure => simp [intOf]; omega
          · have HF : Hid (climbS leaf pos path = 0) := by
              show _ = _
              have : elemsB path = false := allUp_false (k := k) (by rw [hg.out]; exact decide_eq_false hpn) hlt
              rw [HC.out, this]; rfl
            go_wp2_with fail
            go_ret
            exact ⟨ret_int HF.out.symm, Below.refl _ _⟩
        · obtain rfl : k = path.length := by omega
          have HF : Hid (climbS leaf pos path = climbTo leaf pos path path.length) := by
            show _ = _
            have : elemsB path = true := hall.out
            rw [HC.out, this]; rfl
          clear hall HC
          go_wp2_with fail
          go_loopw [9, 42] (fun vd vi wr => ∃ k : Nat, k ≤ path.length ∧ vi = .int .i64 k ∧ vd = .int .u64 (climbTo leaf pos path k) ∧ Below w.heap.size w wr) (fun _ vi _ => path.length - (intOf vi).toNat)
          case atStart => exact ⟨0, Nat.zero_le _, rfl, rfl, Below.refl _ _⟩
          case round =>
            obtain ⟨k, hk, rfl, rfl, hbr⟩ := hrel
            by_cases hlt : k < path.length
            · obtain ⟨b, off, rfl, hbl, n0, n1, hc⟩ := nums_at (numsR.keepB H.out hbr) k hlt
              have hg := Lib.hid (getD_at path 0 k hlt)
              have HD := Lib.hid (climbTo_ok (pos := pos) (path := path) HW.out k)
              have HS : Hid (climbTo leaf pos path (k + 1) = if (bits BinOp.and IntKind.i64 (pos / 2 ^ k) 1 == 0) = true then hashS 6 [climbTo leaf pos path k, path.getD k 0] else hashS 6 [path.getD k 0, climbTo leaf pos path k]) := rfl
              generalize path[k] = n at *
              generalize climbTo leaf pos path k = d at *
              cases hbit : (bits BinOp.and IntKind.i64 (pos / 2 ^ k) 1 == 0) with
              | true =>
                have HN : Hid (climbTo leaf pos path (k + 1) = hashS 6 [d, n]) := by show _ = _; rw [HS.out, hbit, hg.out]; rfl
                go_wp2_with fail
                refine (node_any wr d n HD.out (okU_of n0 n1)).mono ?_
                rintro e w1 ⟨rfl, hb1⟩
                go_wp2_with fail
                go_roundw
                case rel => exact ⟨k + 1, by omega, by go_num, by rw [HN.out], bnext hbr hb1⟩
                case measure => simp [intOf]; omega
              | false =>
                have HN : Hid (climbTo leaf pos path (k + 1) = hashS 6 [n, d]) := by show _ = _; rw [HS.out, hbit, hg.out]; rfl
                go_wp2_with fail
                refine (node_any wr n d (okU_of n0 n1) HD.out).mono ?_
                rintro e w1 ⟨rfl, hb1⟩
                go_wp2_with fail
                go_roundw
                case rel => exact ⟨k + 1, by omega, by go_num, by rw [HN.out], bnext hbr hb1⟩
                case measure => simp [intOf]; omega
            · obtain rfl : k = path.length := by omega
              go_wp2_with fail
              go_ret
              exact ⟨ret_int HF.out.symm, hbr⟩
    · have HF : Hid (climbS leaf pos path = 0) := by show _ = _; unfold climbS; rw [if_neg (fun h => hlf h.2.2.2.1)]
      generalize hP2 : (2 : Int) ^ path.length = P2 at *
      go_enter Tryz.func97, Tryz.ntmps97
      go_wp2_with fail
      go_ret
      exact ⟨ret_int HF.out.symm, Below.refl _ _⟩
  · have HF : Hid (climbS leaf pos path = 0) := by show _ = _; unfold climbS; rw [if_neg (fun h => hp h.2.2.1)]
    generalize hP2 : (2 : Int) ^ path.length = P2 at *
    go_enter Tryz.func97, Tryz.ntmps97
    go_wp2_with fail
    go_ret
    exact ⟨ret_int HF.out.symm, Below.refl _ _⟩

set_option maxRecDepth 100000 in
set_option maxHeartbeats 1000000 in
theorem notes_any (S : Nat → Prop) (w : World) (a : Option Addr) (cap : Nat) (l : List NoteM) (h : notesR.rel S w [.slice a l.length cap] l) :
    Calls Tryz.prog 94 #[.slice a l.length cap] w fun e w' => e = .returned (.bool (l.all noteB)) ∧ Below w.heap.size w w' := by
  have g1 := (sliceR.lens h).2
  unfold maxLen at g1
  have H := Lib.hid h
  clear h
  go_enter Tryz.func94, Tryz.ntmps94
  go_wp2_with fail
  go_loopw [7] (fun i wr => ∃ k : Nat, k ≤ l.length ∧ i = .int .i64 k ∧ Hid ((l.take k).all noteB = true) ∧ Below w.heap.size w wr) (fun i _ => l.length - (intOf i).toNat)
  case atStart => exact ⟨0, Nat.zero_le _, rfl, rfl, Below.refl _ _⟩
  case round =>
    obtain ⟨k, hk, rfl, hall, hbr⟩ := hrel
    by_cases hlt : k < l.length
    · obtain ⟨b, off, rfl, hbl, hok, c0, c1, c2, c3⟩ := notes_at (notesR.keepB H.out hbr) k hlt
      have hno := Lib.hid (all_false noteB l k hlt)
      have hyes := Lib.hid (all_take_succ noteB l k hlt)
      generalize l[k] = n at *
      have hbn := bnew (Below.refl wr.heap.size wr) (.cells #[.int .u64 n.value, .int .u64 n.owner, .int .u64 n.rho, .int .u64 n.blind] 113)
      go_wp2_with fail
      refine (noteValid_any _ n).mono ?_
      rintro e w1 ⟨rfl, hb1⟩
      have hbw := bnext (bnext hbr hbn) hb1
      cases hv : noteB n with
      | true =>
        have HY : Hid ((l.take (k + 1)).all noteB = true) := by show _ = _; rw [hyes.out, hall.out, hv]; rfl
        go_wp2_with fail
        go_roundw
        case rel => exact ⟨k + 1, by omega, by go_num, HY, hbw⟩
        case measure => simp [intOf]; omega
      | false =>
        have HF := Lib.hid (hno.out hv)
        go_wp2_with fail
        go_ret
        exact ⟨ret_bool HF.out.symm, hbw⟩
    · obtain rfl : k = l.length := by omega
      have HF : Hid (l.all noteB = true) := by have := hall.out; rw [List.take_length] at this; exact this
      go_wp2_with fail
      go_ret
      exact ⟨ret_bool HF.out.symm, hbr⟩

def spendableB (s : SpentM) : Bool :=
  noteB s.note && (elemsB [s.key] && (decide (0 ≤ s.number ∧ s.number < 4 ∧ 0 ≤ s.position ∧ s.position ≤ 4095 ∧ s.path.length ≤ 12) && elemsB s.path))
set_option maxRecDepth 100000 in
set_option maxHeartbeats 3000000 in
theorem spendable_any (S : Nat → Prop) (w : World) (s : SpentM) (hok : SpentOk s) (a : Option Addr) (cap : Nat) (h : numsR.rel S w [.slice a s.path.length cap] s.path) :
    Calls Tryz.prog 93 #[.agg #[.int .u64 s.note.value, .int .u64 s.note.owner, .int .u64 s.note.rho, .int .u64 s.note.blind, .int .u64 s.key, .int .i64 s.number, .int .i64 s.position, .slice a s.path.length cap, .bool s.dummy]] w
      fun e w' => e = .returned (.bool (spendableB s)) ∧ Below w.heap.size w w' := by
  have hb0 := bnew (Below.refl w.heap.size w) (.cells #[.int .u64 s.note.value, .int .u64 s.note.owner, .int .u64 s.note.rho, .int .u64 s.note.blind, .int .u64 s.key, .int .i64 s.number, .int .i64 s.position, .slice a s.path.length cap, .bool s.dummy] 118)
  have HX := Lib.hid (box_new w (.cells #[.int .u64 s.note.value, .int .u64 s.note.owner, .int .u64 s.note.rho, .int .u64 s.note.blind, .int .u64 s.key, .int .i64 s.number, .int .i64 s.position, .slice a s.path.length cap, .bool s.dummy] 118))
  have HB := Lib.hid hb0
  have H := Lib.hid (numsR.keepB h hb0)
  have HU : Hid (spendableB s = (noteB s.note && (elemsB [s.key] && (decide (0 ≤ s.number ∧ s.number < 4 ∧ 0 ≤ s.position ∧ s.position ≤ 4095 ∧ s.path.length ≤ 12) && elemsB s.path)))) := rfl
  have hkey := hok.key
  clear hb0 h hok
  go_enter Tryz.func93, Tryz.ntmps93
  go_wp2_with fail
  refine (noteValid_any _ s.note).mono ?_
  rintro e w1 ⟨rfl, hb1⟩
  have hw1 := bnext HB.out hb1
  obtain ⟨x0, x1⟩ := box_cells (box_after hb1 HX.out)
  cases hv : noteB s.note with
  | false =>
    have HF : Hid (spendableB s = false) := by show _ = _; rw [HU.out, hv]; rfl
    go_wp2_with fail
    go_ret
    exact ⟨ret_bool HF.out.symm, hw1⟩
  | true =>
    have HK := Lib.hid (nums1 w1 24 hkey)
    go_wp2_with fail
    refine (elements_any (fun _ => True) _ _ 1 [s.key] HK.out).mono ?_
    rintro e w2 ⟨rfl, hb2⟩
    have hbn := bnew (Below.refl w1.heap.size w1) (.cells #[.int .u64 s.key] 24)
    have hw2 := bnext (bnext hw1 hbn) hb2
    clear x0 x1
    obtain ⟨x0, x1⟩ := box_cells (box_after hb2 (box_after hbn (box_after hb1 HX.out)))
    cases he : elemsB [s.key] with
    | false =>
      have HF : Hid (spendableB s = false) := by show _ = _; rw [HU.out, hv, he]; rfl
      go_wp2_with fail
      go_ret
      exact ⟨ret_bool HF.out.symm, hw2⟩
    | true =>
      by_cases hd : 0 ≤ s.number ∧ s.number < 4 ∧ 0 ≤ s.position ∧ s.position ≤ 4095 ∧ s.path.length ≤ 12
      · obtain ⟨d1, d2, d3, d4, d5⟩ := hd
        have HD := Lib.hid (decide_eq_true (⟨d1, d2, d3, d4, d5⟩ : 0 ≤ s.number ∧ s.number < 4 ∧ 0 ≤ s.position ∧ s.position ≤ 4095 ∧ s.path.length ≤ 12))
        have d6 : (s.path.length : Int) ≤ 12 := by omega
        go_wp2_with fail
        refine (elements_any S w2 a cap s.path (numsR.keepB (numsR.keepB (numsR.keepB H.out hb1) hbn) hb2)).mono ?_
        rintro e w3 ⟨rfl, hb3⟩
        have HF : Hid (spendableB s = elemsB s.path) := by show _ = _; rw [HU.out, hv, he, HD.out]; rfl
        go_wp2_with fail
        go_ret
        exact ⟨ret_bool HF.out.symm, bnext hw2 hb3⟩
      · have HF : Hid (spendableB s = false) := by show _ = _; rw [HU.out, hv, he, decide_eq_false hd]; rfl
        by_cases d1 : 0 ≤ s.number
        · by_cases d2 : s.number < 4
          · by_cases d3 : 0 ≤ s.position
            · by_cases d4 : s.position ≤ 4095
              · have d6 : ¬ (s.path.length : Int) ≤ 12 := fun h => hd ⟨d1, d2, d3, d4, by omega⟩
                go_wp2_with fail
                go_ret
                exact ⟨ret_bool HF.out.symm, hw2⟩
              · go_wp2_with fail
                go_ret
                exact ⟨ret_bool HF.out.symm, hw2⟩
            · go_wp2_with fail
              go_ret
              exact ⟨ret_bool HF.out.symm, hw2⟩
          · go_wp2_with fail
            go_ret
            exact ⟨ret_bool HF.out.symm, hw2⟩
        · go_wp2_with fail
          go_ret
          exact ⟨ret_bool HF.out.symm, hw2⟩
end Go.Proofs.YthggdacincfplaaGreatDoor
