/- Paths; notes that may be spent; sums. -/
import Derived.Test.YtphacfkcifpobaaGreatDoorM06
import Derived.Test.YtphacfkcifpobaaGreatDoorM05
import Derived.Test.YtphacfkcifpobaaGreatDoorM03
set_option maxRecDepth 100000
namespace Go.Proofs.YtphacfkcifpobaaGreatDoor
open Go.ChangeShapes Go.WideShapes Go.ChangeAt Go.RowKit
set_option maxHeartbeats 3000000 in
theorem climb_any (S : Nat → Prop) (w : World) (leaf pos : Int) (hl : okU leaf) (a : Option Addr) (cap : Nat) (path : List Int) (h : numsR.rel S w [.slice a path.length cap] path) (hlen : path.length ≤ 12) (p0 : 0 ≤ pos) (p1 : pos ≤ 4095) :
   Calls Tryz.prog 330 #[.int .u64 leaf, .int .i64 pos, .slice a path.length cap] w fun e w' => e = .returned (.int .u64 (climbS leaf pos path)) ∧ Below w.heap.size w w' := by
 have H := Lib.hid h; have HW := Lib.hid hl; obtain ⟨l0, l1⟩ := okU_in hl; clear h hl
 obtain ⟨e1, e2, e3⟩ := pow12 ⟨path.length, by omega⟩
 simp only at e1 e2 e3
 have g12 : ¬ (12 : Int) < (path.length : Int) := by omega
 by_cases hp : pos < 2 ^ path.length
 · by_cases hlf : leaf < 18446744069414584321
   · have HC : Hid (climbS leaf pos path = if elemsB path = true then climbTo leaf pos path path.length else 0) := by
       show _ = _
       unfold climbS
       by_cases he : elemsB path = true
       · rw [if_pos ⟨hlen, p0, hp, hlf, he⟩, if_pos he]
       · rw [if_neg (fun h => he h.2.2.2.2), if_neg he]
     generalize hP2 : (2 : Int) ^ path.length = P2 at *
     go_enter Tryz.func330, Tryz.ntmps330
     go_wp2_with fail
     go_loop [32] (fun i => ∃ k : Nat, k ≤ path.length ∧ i = .int .i64 k ∧ Hid (allUp (fun k => elemB (path.getD k 0)) k = true)) (fun i => path.length - (intOf i).toNat)
     case atStart => exact ⟨0, Nat.zero_le _, rfl, rfl⟩
     case round =>
       obtain ⟨k, hk, rfl, hall⟩ := hrel
       by_cases hlt : k < path.length
       · obtain ⟨b, off, rfl, hbl, n0, n1, hc⟩ := nums_at H.out k hlt
         have hg := Lib.hid (getD_at path 0 k hlt); generalize path[k] = n at *
         by_cases hpn : n < 18446744069414584321
         · have HY : Hid (allUp (fun k => elemB (path.getD k 0)) (k + 1) = true) := allUp_step hall.out (by rw [hg.out]; exact decide_eq_true hpn)
           go_wp2_with fail
           go_round
           case rel => exact ⟨k + 1, by omega, by go_num, HY⟩
           case measure => simp [intOf]; omega
         · have HF : Hid (climbS leaf pos path = 0) := by
             show _ = _
             have : elemsB path = false := allUp_false (k := k) (by rw [hg.out]; exact decide_eq_false hpn) hlt
             rw [HC.out, this]; rfl
           go_wp2_with fail; go_ret
           exact ⟨ret_int HF.out.symm, Below.refl _ _⟩
       · obtain rfl : k = path.length := by omega
         have HF : Hid (climbS leaf pos path = climbTo leaf pos path path.length) := by
           show _ = _
           have : elemsB path = true := hall.out
           rw [HC.out, this]; rfl
         clear hall HC; go_wp2_with fail
         go_loopw [9, 42] (fun vd vi wr => ∃ k : Nat, k ≤ path.length ∧ vi = .int .i64 k ∧ vd = .int .u64 (climbTo leaf pos path k) ∧ Below w.heap.size w wr) (fun _ vi _ => path.length - (intOf vi).toNat)
         case atStart => exact ⟨0, Nat.zero_le _, rfl, rfl, Below.refl _ _⟩
         case round =>
           obtain ⟨k, hk, rfl, rfl, hbr⟩ := hrel
           by_cases hlt : k < path.length
           · obtain ⟨b, off, rfl, hbl, n0, n1, hc⟩ := nums_at (numsR.keepB H.out hbr) k hlt
             have hg := Lib.hid (getD_at path 0 k hlt); have HD := Lib.hid (climbTo_ok (pos := pos) (path := path) HW.out k); have HS : Hid (climbTo leaf pos path (k + 1) = if (bits BinOp.and IntKind.i64 (pos / 2 ^ k) 1 == 0) = true then hashS 6 [climbTo leaf pos path k, path.getD k 0] else hashS 6 [path.getD k 0, climbTo leaf pos path k]) := rfl; generalize path[k] = n at *; generalize climbTo leaf pos path k = d at *
             cases hbit : (bits BinOp.and IntKind.i64 (pos / 2 ^ k) 1 == 0) with
             | true =>
               have HN : Hid (climbTo leaf pos path (k + 1) = hashS 6 [d, n]) := by show _ = _; rw [HS.out, hbit, hg.out]; rfl
               go_wp2_with fail
               refine (node_any wr d n HD.out (okU_of n0 n1)).mono ?_
               rintro e w1 ⟨rfl, hb1⟩; go_wp2_with fail
               go_roundw
               case rel => exact ⟨k + 1, by omega, by go_num, by rw [HN.out], bnext hbr hb1⟩
               case measure => simp [intOf]; omega
             | false =>
               have HN : Hid (climbTo leaf pos path (k + 1) = hashS 6 [n, d]) := by show _ = _; rw [HS.out, hbit, hg.out]; rfl
               go_wp2_with fail
               refine (node_any wr n d (okU_of n0 n1) HD.out).mono ?_
               rintro e w1 ⟨rfl, hb1⟩; go_wp2_with fail
               go_roundw
               case rel => exact ⟨k + 1, by omega, by go_num, by rw [HN.out], bnext hbr hb1⟩
               case measure => simp [intOf]; omega
           · obtain rfl : k = path.length := by omega
             go_wp2_with fail; go_ret
             exact ⟨ret_int HF.out.symm, hbr⟩
   · have HF : Hid (climbS leaf pos path = 0) := by show _ = _; unfold climbS; rw [if_neg (fun h => hlf h.2.2.2.1)]
     generalize hP2 : (2 : Int) ^ path.length = P2 at *
     go_enter Tryz.func330, Tryz.ntmps330
     go_wp2_with fail; go_ret
     exact ⟨ret_int HF.out.symm, Below.refl _ _⟩
 · have HF : Hid (climbS leaf pos path = 0) := by show _ = _; unfold climbS; rw [if_neg (fun h => hp h.2.2.1)]
   generalize hP2 : (2 : Int) ^ path.length = P2 at *
   go_enter Tryz.func330, Tryz.ntmps330
   go_wp2_with fail; go_ret
   exact ⟨ret_int HF.out.symm, Below.refl _ _⟩
set_option maxHeartbeats 1000000 in
theorem notes_any (S : Nat → Prop) (w : World) (a : Option Addr) (cap : Nat) (l : List NoteM) (h : notesR.rel S w [.slice a l.length cap] l) :
   Calls Tryz.prog 343 #[.slice a l.length cap] w fun e w' => e = .returned (.bool (l.all noteB)) ∧ Below w.heap.size w w' := by
 have g1 := (sliceR.lens h).2; unfold maxLen at g1; have H := Lib.hid h; clear h
 go_enter Tryz.func343, Tryz.ntmps343
 go_wp2_with fail
 go_loopw [7] (fun i wr => ∃ k : Nat, k ≤ l.length ∧ i = .int .i64 k ∧ Hid ((l.take k).all noteB = true) ∧ Below w.heap.size w wr) (fun i _ => l.length - (intOf i).toNat)
 case atStart => exact ⟨0, Nat.zero_le _, rfl, rfl, Below.refl _ _⟩
 case round =>
   obtain ⟨k, hk, rfl, hall, hbr⟩ := hrel
   by_cases hlt : k < l.length
   · obtain ⟨b, off, rfl, hbl, hok, c0, c1, c2, c3⟩ := notes_at (notesR.keepB H.out hbr) k hlt
     have hno := Lib.hid (all_false noteB l k hlt); have hyes := Lib.hid (all_take_succ noteB l k hlt); generalize l[k] = n at *; have hbn := bnew (Below.refl wr.heap.size wr) (.cells #[.int .u64 n.value, .int .u64 n.owner, .int .u64 n.rho, .int .u64 n.blind] 96); go_wp2_with fail
     refine (noteValid_any _ n).mono ?_
     rintro e w1 ⟨rfl, hb1⟩; have hbw := bnext (bnext hbr hbn) hb1
     cases hv : noteB n with
     | true =>
       have HY : Hid ((l.take (k + 1)).all noteB = true) := by show _ = _; rw [hyes.out, hall.out, hv]; rfl
       go_wp2_with fail
       go_roundw
       case rel => exact ⟨k + 1, by omega, by go_num, HY, hbw⟩
       case measure => simp [intOf]; omega
     | false =>
       have HF := Lib.hid (hno.out hv); go_wp2_with fail; go_ret
       exact ⟨ret_bool HF.out.symm, hbw⟩
   · obtain rfl : k = l.length := by omega
     have HF : Hid (l.all noteB = true) := by have := hall.out; rw [List.take_length] at this; exact this
     go_wp2_with fail; go_ret
     exact ⟨ret_bool HF.out.symm, hbr⟩
def spendableB (s : SpentM) : Bool :=
 noteB s.note && (elemsB [s.key] && (decide (0 ≤ s.number ∧ s.number < 4 ∧ 0 ≤ s.position ∧ s.position ≤ 4095 ∧ s.path.length ≤ 12) && elemsB s.path))
set_option maxHeartbeats 3000000 in
theorem spendable_any (S : Nat → Prop) (w : World) (s : SpentM) (hok : SpentOk s) (a : Option Addr) (cap : Nat) (h : numsR.rel S w [.slice a s.path.length cap] s.path) :
   Calls Tryz.prog 342 #[.agg #[.int .u64 s.note.value, .int .u64 s.note.owner, .int .u64 s.note.rho, .int .u64 s.note.blind, .int .u64 s.key, .int .i64 s.number, .int .i64 s.position, .slice a s.path.length cap, .bool s.dummy]] w
     fun e w' => e = .returned (.bool (spendableB s)) ∧ Below w.heap.size w w' := by
 have hb0 := bnew (Below.refl w.heap.size w) (.cells #[.int .u64 s.note.value, .int .u64 s.note.owner, .int .u64 s.note.rho, .int .u64 s.note.blind, .int .u64 s.key, .int .i64 s.number, .int .i64 s.position, .slice a s.path.length cap, .bool s.dummy] 266); have HX := Lib.hid (box_new w (.cells #[.int .u64 s.note.value, .int .u64 s.note.owner, .int .u64 s.note.rho, .int .u64 s.note.blind, .int .u64 s.key, .int .i64 s.number, .int .i64 s.position, .slice a s.path.length cap, .bool s.dummy] 266)); have HB := Lib.hid hb0; have H := Lib.hid (numsR.keepB h hb0); have HU : Hid (spendableB s = (noteB s.note && (elemsB [s.key] && (decide (0 ≤ s.number ∧ s.number < 4 ∧ 0 ≤ s.position ∧ s.position ≤ 4095 ∧ s.path.length ≤ 12) && elemsB s.path)))) := rfl; have hkey := hok.key; clear hb0 h hok
 go_enter Tryz.func342, Tryz.ntmps342
 go_wp2_with fail
 refine (noteValid_any _ s.note).mono ?_
 rintro e w1 ⟨rfl, hb1⟩; have hw1 := bnext HB.out hb1; obtain ⟨x0, x1⟩ := box_cells (box_after hb1 HX.out)
 cases hv : noteB s.note with
 | false =>
   have HF : Hid (spendableB s = false) := by show _ = _; rw [HU.out, hv]; rfl
   go_wp2_with fail; go_ret
   exact ⟨ret_bool HF.out.symm, hw1⟩
 | true =>
   have HK := Lib.hid (nums1 w1 24 hkey); go_wp2_with fail
   refine (elements_any (fun _ => True) _ _ 1 [s.key] HK.out).mono ?_
   rintro e w2 ⟨rfl, hb2⟩; have hbn := bnew (Below.refl w1.heap.size w1) (.cells #[.int .u64 s.key] 24); have hw2 := bnext (bnext hw1 hbn) hb2; clear x0 x1; obtain ⟨x0, x1⟩ := box_cells (box_after hb2 (box_after hbn (box_after hb1 HX.out)))
   cases he : elemsB [s.key] with
   | false =>
     have HF : Hid (spendableB s = false) := by show _ = _; rw [HU.out, hv, he]; rfl
     go_wp2_with fail; go_ret
     exact ⟨ret_bool HF.out.symm, hw2⟩
   | true =>
     by_cases hd : 0 ≤ s.number ∧ s.number < 4 ∧ 0 ≤ s.position ∧ s.position ≤ 4095 ∧ s.path.length ≤ 12
     · obtain ⟨d1, d2, d3, d4, d5⟩ := hd
       have HD := Lib.hid (decide_eq_true (⟨d1, d2, d3, d4, d5⟩ : 0 ≤ s.number ∧ s.number < 4 ∧ 0 ≤ s.position ∧ s.position ≤ 4095 ∧ s.path.length ≤ 12))
       have d6 : (s.path.length : Int) ≤ 12 := by omega
       go_wp2_with fail
       refine (elements_any S w2 a cap s.path (numsR.keepB (numsR.keepB (numsR.keepB H.out hb1) hbn) hb2)).mono ?_
       rintro e w3 ⟨rfl, hb3⟩
       have HF : Hid (spendableB s = elemsB s.path) := by show _ = _; rw [HU.out, hv, he, HD.out]; rfl
       go_wp2_with fail; go_ret
       exact ⟨ret_bool HF.out.symm, bnext hw2 hb3⟩
     · have HF : Hid (spendableB s = false) := by show _ = _; rw [HU.out, hv, he, decide_eq_false hd]; rfl
       by_cases d1 : 0 ≤ s.number
       · by_cases d2 : s.number < 4
         · by_cases d3 : 0 ≤ s.position
           · by_cases d4 : s.position ≤ 4095
             · have d6 : ¬ (s.path.length : Int) ≤ 12 := fun h => hd ⟨d1, d2, d3, d4, by omega⟩
               go_wp2_with fail; go_ret
               exact ⟨ret_bool HF.out.symm, hw2⟩
             · go_wp2_with fail
               go_ret
               exact ⟨ret_bool HF.out.symm, hw2⟩
           · go_wp2_with fail
             go_ret
             exact ⟨ret_bool HF.out.symm, hw2⟩
         · go_wp2_with fail
           go_ret
           exact ⟨ret_bool HF.out.symm, hw2⟩
       · go_wp2_with fail
         go_ret
         exact ⟨ret_bool HF.out.symm, hw2⟩
end Go.Proofs.YtphacfkcifpobaaGreatDoor
/- The reference's reader, in plain numbers, and that it reads the same witnesses; no conditions. -/
namespace Go.Proofs.YtphacfkcifpobaaGreatDoor
structure RfM where
 b : List Int
 fail : Bool
def RfM.bad (r : RfM) : RfM := ⟨r.b, true⟩
def RfM.take (r : RfM) (n : Nat) : List Int × RfM := if r.fail = true ∨ r.b.length < n then ([], r.bad) else (r.b.take n, ⟨r.b.drop n, false⟩)
def RfM.uint (r : RfM) (most : Int) : Int × RfM := if (r.take 8).2.fail = true ∨ most < leN (r.take 8).1 then (0, (r.take 8).2.bad) else (leN (r.take 8).1, (r.take 8).2)
def RfM.int (r : RfM) (most : Int) : Int × RfM := if (r.take 4).2.fail = true ∨ most < leN (r.take 4).1 then (0, (r.take 4).2.bad) else (leN (r.take 4).1, (r.take 4).2)
def RfM.many (p : Int) : Nat → RfM → List Int → List Int × RfM
 | 0, r, acc => (acc, r)
 | k + 1, r, acc => if p ≤ leN (r.take 8).1 then ([], (r.take 8).2.bad) else RfM.many p k (r.take 8).2 (acc ++ [leN (r.take 8).1])
def RfM.list (r : RfM) (most p : Int) : List Int × RfM :=
 if (r.int most).2.fail = true ∨ ((r.int most).2.b.length : Int) / 8 < (r.int most).1 then ([], (r.int most).2.bad) else RfM.many p (r.int most).1.toNat (r.int most).2 []
def RfM.n1 (r : RfM) : RfM := (r.uint 18446744073709551615).2
def RfM.n2 (r : RfM) : RfM := (r.n1.uint 18446744073709551615).2
def RfM.n3 (r : RfM) : RfM := (r.n2.uint 18446744073709551615).2
def RfM.n4 (r : RfM) : RfM := (r.n3.uint 18446744073709551615).2
def RfM.note (r : RfM) : NoteM := ⟨(r.uint 18446744073709551615).1, (r.n1.uint 18446744073709551615).1, (r.n2.uint 18446744073709551615).1, (r.n3.uint 18446744073709551615).1⟩
def RfM.s1 (r : RfM) : RfM := (r.n4.uint 18446744073709551615).2
def RfM.s2 (r : RfM) : RfM := (r.s1.int 4294967296).2
def RfM.s3 (r : RfM) : RfM := (r.s2.int 4294967296).2
def RfM.s4 (r : RfM) : RfM := (r.s3.list 12 18446744069414584321).2
def RfM.s5 (r : RfM) : RfM := (r.s4.int 1).2
def RfM.spent (r : RfM) : SpentM := ⟨r.note, (r.n4.uint 18446744073709551615).1, (r.s1.int 4294967296).1, (r.s2.int 4294967296).1, (r.s3.list 12 18446744069414584321).1, (r.s4.int 1).1 == 1⟩
def RfM.spents : Nat → RfM → List SpentM → List SpentM × RfM
 | 0, r, acc => (acc, r)
 | k + 1, r, acc => if r.fail = true then (acc, r) else RfM.spents k r.s5 (acc ++ [r.spent])
def RfM.notes : Nat → RfM → List NoteM → List NoteM × RfM
 | 0, r, acc => (acc, r)
 | k + 1, r, acc => if r.fail = true then (acc, r) else RfM.notes k r.n4 (acc ++ [r.note])
def rightIn (x : SpentM) : Bool := decide (x.path.length ≤ 12 ∧ 0 ≤ x.position ∧ x.position < 4096) && (noteB x.note && (elemB x.key && (decide (0 ≤ x.number ∧ x.number < 4) && elemsB x.path)))
theorem and5 {a b c d e : Bool} (ha : a = true) (hb : b = true) (hc : c = true) (hd : d = true) (he : e = true) : (a && (b && (c && (d && e)))) = true := by subst ha hb hc hd he; rfl
theorem and4f {a b c d e : Bool} (h : d = false) : (a && (b && (c && (d && e)))) = false := by subst h; simp
theorem and1f {a b : Bool} (h : a = false) : (a && b) = false := by subst h; rfl
structure Sim (r : RdM) (q : RfM) : Prop where
 rok : r.failed = false
 qok : q.fail = false
 pos : r.pos ≤ r.bytes.length
 same : q.b = r.bytes.drop r.pos
 bytes : ∀ d ∈ r.bytes, 0 ≤ d ∧ d < 256
theorem Sim.dig {r : RdM} {q : RfM} (h : Sim r q) (n : Nat) :
   ((r.dig n).2.1 = true ∧ (q.take n).2.fail = false ∧ (r.dig n).1 = leN (q.take n).1 ∧ Sim (r.dig n).2.2 (q.take n).2 ∧ 0 ≤ (r.dig n).1 ∧ (r.dig n).1 < 256 ^ n) ∨
   ((r.dig n).2.1 = false ∧ (r.dig n).2.2.failed = true ∧ (q.take n).2.fail = true) := by
 have hl : q.b.length = r.bytes.length - r.pos := by rw [h.same, List.length_drop]
 have hpos := h.pos; unfold RdM.dig RfM.take RdM.bad
 by_cases hb : r.bytes.length < r.pos + n
 · right
   have e1 : (r.failed || decide (r.bytes.length < r.pos + n)) = true := by simp [hb]
   have e2 : q.fail = true ∨ q.b.length < n := .inr (by omega)
   rw [if_pos e1, if_pos e2]
   exact ⟨rfl, rfl, rfl⟩
 · left
   have e1 : ¬ (r.failed || decide (r.bytes.length < r.pos + n)) = true := by simp [h.rok, hb]
   have e2 : ¬ (q.fail = true ∨ q.b.length < n) := by rw [h.qok]; rintro (h | h); cases h; omega
   rw [if_neg e1, if_neg e2]
   have h2 := leN_in ((r.bytes.drop r.pos).take n) fun d hd => h.bytes d (List.mem_of_mem_drop (List.mem_of_mem_take hd))
   have h3 : ((r.bytes.drop r.pos).take n).length = n := by simp; omega
   rw [h3] at h2
   refine ⟨rfl, rfl, ?_, ⟨h.rok, rfl, by simp only [RdM.to]; omega, ?_, h.bytes⟩, h2.1, h2.2⟩
   · simp only [RdM.num, h.same]
   · simp only [RdM.to, h.same, List.drop_drop]
theorem dig_failed {r : RdM} (h : r.failed = true) (n : Nat) : (r.dig n).2.1 = false ∧ (r.dig n).2.2.failed = true ∧ (r.dig n).1 = 0 := by
 unfold RdM.dig RdM.bad; simp [h, RdM.fail]
theorem take_failed {q : RfM} (h : q.fail = true) (n : Nat) : (q.take n).2.fail = true := by
 unfold RfM.take; simp [h, RfM.bad]
theorem uint_failed {r : RdM} (h : r.failed = true) (m : Int) : (r.uint m).2.failed = true := by
 unfold RdM.uint; rw [if_pos (.inl (dig_failed h 8).1)]; rfl
theorem int_failed {r : RdM} (h : r.failed = true) (m : Int) : (r.int m).2.failed = true := by
 unfold RdM.int; rw [if_pos (.inl (dig_failed h 4).1)]; rfl
theorem list_failed {r : RdM} (h : r.failed = true) (m p : Int) : (r.list m p).2.failed = true := by
 unfold RdM.list; rw [if_pos (.inl (int_failed h m))]; rfl
theorem ruint_failed {q : RfM} (h : q.fail = true) (m : Int) : (q.uint m).2.fail = true := by
 unfold RfM.uint; rw [if_pos (.inl (take_failed h 8))]; rfl
theorem rint_failed {q : RfM} (h : q.fail = true) (m : Int) : (q.int m).2.fail = true := by
 unfold RfM.int; rw [if_pos (.inl (take_failed h 4))]; rfl
theorem rlist_failed {q : RfM} (h : q.fail = true) (m p : Int) : (q.list m p).2.fail = true := by
 unfold RfM.list; rw [if_pos (.inl (rint_failed h m))]; rfl
theorem Sim.uint {r : RdM} {q : RfM} (h : Sim r q) (m M : Int) (hm : m ≤ M) (hM : 18446744073709551615 ≤ M ∨ M = m) :
   ((r.uint m).1 = (q.uint M).1 ∧ Sim (r.uint m).2 (q.uint M).2 ∧ 0 ≤ (r.uint m).1 ∧ (r.uint m).1 ≤ m) ∨ ((r.uint m).2.failed = true ∧ ((q.uint M).2.fail = true ∨ m < (q.uint M).1)) := by
 unfold RdM.uint RfM.uint
 rcases h.dig 8 with ⟨h1, h2, h3, h4, h5, h6⟩ | ⟨h1, h2, h3⟩
 · rw [h3] at h5 h6
   rw [h1, h2, h3]
   by_cases hb : m < leN (q.take 8).1
   · right
     rw [if_pos (.inr hb)]
     refine ⟨rfl, ?_⟩
     rcases hM with hM | rfl
     · rw [if_neg (by simp; omega)]; exact .inr hb
     · rw [if_pos (.inr hb)]; exact .inl rfl
   · left
     rw [if_neg (by simp; omega), if_neg (by simp; omega)]
     exact ⟨rfl, h4, h5, by show leN (q.take 8).1 ≤ m; omega⟩
 · right
   rw [if_pos (.inl h1), if_pos (.inl h3)]
   exact ⟨rfl, .inl rfl⟩
theorem Sim.int {r : RdM} {q : RfM} (h : Sim r q) (m M : Int) (hm : m ≤ M) (hM : 4294967295 ≤ M ∨ M = m) :
   ((r.int m).1 = (q.int M).1 ∧ Sim (r.int m).2 (q.int M).2 ∧ 0 ≤ (r.int m).1 ∧ (r.int m).1 ≤ m) ∨ ((r.int m).2.failed = true ∧ ((q.int M).2.fail = true ∨ m < (q.int M).1)) := by
 unfold RdM.int RfM.int
 rcases h.dig 4 with ⟨h1, h2, h3, h4, h5, h6⟩ | ⟨h1, h2, h3⟩
 · rw [h3] at h5 h6
   rw [h1, h2, h3]
   by_cases hb : m < leN (q.take 4).1
   · right
     rw [if_pos (.inr hb)]
     refine ⟨rfl, ?_⟩
     rcases hM with hM | rfl
     · rw [if_neg (by simp; omega)]; exact .inr hb
     · rw [if_pos (.inr hb)]; exact .inl rfl
   · left
     rw [if_neg (by simp; omega), if_neg (by simp; omega)]
     exact ⟨rfl, h4, h5, by show leN (q.take 4).1 ≤ m; omega⟩
 · right
   rw [if_pos (.inl h1), if_pos (.inl h3)]
   exact ⟨rfl, .inl rfl⟩
theorem Sim.int' {r : RdM} {q : RfM} (h : Sim r q) (m : Int) :
   ((r.int m).1 = (q.int m).1 ∧ Sim (r.int m).2 (q.int m).2 ∧ 0 ≤ (r.int m).1 ∧ (r.int m).1 ≤ m) ∨ ((r.int m).2.failed = true ∧ (q.int m).2.fail = true) := by
 unfold RdM.int RfM.int
 rcases h.dig 4 with ⟨h1, h2, h3, h4, h5, h6⟩ | ⟨h1, h2, h3⟩
 · rw [h3] at h5 h6
   rw [h1, h2, h3]
   by_cases hb : m < leN (q.take 4).1
   · right
     rw [if_pos (.inr hb), if_pos (.inr hb)]
     exact ⟨rfl, rfl⟩
   · left
     rw [if_neg (by simp; omega), if_neg (by simp; omega)]
     exact ⟨rfl, h4, h5, by show leN (q.take 4).1 ≤ m; omega⟩
 · right
   rw [if_pos (.inl h1), if_pos (.inl h3)]
   exact ⟨rfl, rfl⟩
theorem Sim.many (p : Int) : ∀ (k : Nat) (r : RdM) (q : RfM) (acc : List Int), Sim r q → k * 8 ≤ q.b.length → (∀ x ∈ acc, x < p) →
   ((RdM.many p k r acc).1 = (RfM.many p k q acc).1 ∧ Sim (RdM.many p k r acc).2 (RfM.many p k q acc).2 ∧ (∀ x ∈ (RfM.many p k q acc).1, x < p) ∧ (RfM.many p k q acc).1.length = acc.length + k) ∨
   ((RdM.many p k r acc).2.failed = true ∧ (RfM.many p k q acc).2.fail = true)
 | 0, r, q, acc, h, _, ha => .inl ⟨rfl, h, ha, rfl⟩
 | k + 1, r, q, acc, h, hl, ha => by
   have hlen : (q.take 8).2.b.length = q.b.length - 8 := by
     unfold RfM.take
     rw [if_neg (by rw [h.qok]; rintro (h | h); cases h; omega)]
     simp
   rcases h.dig 8 with ⟨h1, h2, h3, h4, h5, h6⟩ | ⟨h1, h2, h3⟩
   · unfold RdM.many RfM.many
     rw [h3]
     by_cases hp : p ≤ leN (q.take 8).1
     · rw [if_pos hp, if_pos hp]
       exact .inr ⟨rfl, rfl⟩
     · rw [if_neg hp, if_neg hp]
       have := Sim.many p k (r.dig 8).2.2 (q.take 8).2 (acc ++ [leN (q.take 8).1]) h4 (by omega) (by
         intro x hx
         rcases List.mem_append.1 hx with hx | hx
         · exact ha x hx
         · simp at hx; omega)
       rw [List.length_append, List.length_singleton] at this
       rcases this with ⟨a1, a2, a3, a4⟩ | h
       · exact .inl ⟨a1, a2, a3, by omega⟩
       · exact .inr h
   · exfalso
     unfold RfM.take at h3
     rw [if_neg (by rw [h.qok]; rintro (h | h); cases h; omega)] at h3
     cases h3
theorem allUp_all {p : Nat → Bool} : ∀ {n : Nat}, (∀ k, k < n → p k = true) → allUp p n = true
 | 0, _ => rfl
 | n + 1, h => allUp_step (allUp_all fun k hk => h k (by omega)) (h n (by omega))
theorem elemsB_of {l : List Int} (h : ∀ x ∈ l, x < 18446744069414584321) : elemsB l = true := by
 refine allUp_all fun k hk => decide_eq_true ?_
 rw [getD_at l 0 k hk]
 exact h _ (List.getElem_mem hk)
theorem Sim.list {r : RdM} {q : RfM} (h : Sim r q) (m : Int) :
   ((r.list m 18446744069414584321).1 = (q.list m 18446744069414584321).1 ∧ Sim (r.list m 18446744069414584321).2 (q.list m 18446744069414584321).2 ∧ elemsB (q.list m 18446744069414584321).1 = true ∧ ((q.list m 18446744069414584321).1.length : Int) ≤ m) ∨
   ((r.list m 18446744069414584321).2.failed = true ∧ (q.list m 18446744069414584321).2.fail = true) := by
 unfold RdM.list RfM.list
 rcases h.int' m with ⟨h1, h2, h3, h4⟩ | ⟨h1, h2⟩
 · have hl : (q.int m).2.b.length = (r.int m).2.bytes.length - (r.int m).2.pos := by rw [h2.same, List.length_drop]
   rw [h2.rok, h2.qok, hl, h1]
   by_cases hb : (((r.int m).2.bytes.length - (r.int m).2.pos : Nat) : Int) / 8 < (q.int m).1
   · rw [if_pos (.inr hb), if_pos (.inr hb)]
     exact .inr ⟨rfl, rfl⟩
   · rw [if_neg (by simp; omega), if_neg (by simp; omega)]
     rw [h1] at h3 h4
     rcases Sim.many 18446744069414584321 (q.int m).1.toNat _ _ [] h2 (by omega) (fun x hx => by cases hx) with ⟨a1, a2, a3, a4⟩ | h
     · exact .inl ⟨a1, a2, elemsB_of a3, by rw [a4]; simp; omega⟩
     · exact .inr h
 · rw [if_pos (.inl h1), if_pos (.inl h2)]
   exact .inr ⟨rfl, rfl⟩
theorem note_failed {r : RdM} (h : r.failed = true) : r.n4.failed = true := uint_failed (uint_failed (uint_failed (uint_failed h _) _) _) _
theorem spent_failed {r : RdM} (h : r.failed = true) : r.s5.failed = true := int_failed (list_failed (int_failed (int_failed (uint_failed (note_failed h) _) _) _) _ _) _
theorem Sim.note {r : RdM} {q : RfM} (h : Sim r q) : (r.note = q.note ∧ Sim r.n4 q.n4 ∧ noteB q.note = true) ∨ (r.n4.failed = true ∧ (q.n4.fail = true ∨ noteB q.note = false)) := by
 rcases h.uint 4294967295 18446744073709551615 (by omega) (.inl (by omega)) with ⟨a1, s1, a2, a3⟩ | ⟨f, g⟩
 · rcases Sim.uint (r := r.n1) (q := q.n1) s1 18446744069414584320 18446744073709551615 (by omega) (.inl (by omega)) with ⟨b1, s2, b2, b3⟩ | ⟨f, g⟩
   · rcases Sim.uint (r := r.n2) (q := q.n2) s2 18446744069414584320 18446744073709551615 (by omega) (.inl (by omega)) with ⟨c1, s3, c2, c3⟩ | ⟨f, g⟩
     · rcases Sim.uint (r := r.n3) (q := q.n3) s3 18446744069414584320 18446744073709551615 (by omega) (.inl (by omega)) with ⟨d1, s4, d2, d3⟩ | ⟨f, g⟩
       · left
         refine ⟨by simp only [RdM.note, RfM.note, a1, b1, c1, d1], s4, ?_⟩
         exact decide_eq_true (by simp only [RfM.note]; omega)
       · right
         refine ⟨f, g.imp id fun g => ?_⟩
         exact decide_eq_false (by simp only [RfM.note]; omega)
     · right
       refine ⟨uint_failed f _, g.imp (fun g => ruint_failed g _) fun g => ?_⟩
       exact decide_eq_false (by simp only [RfM.note]; omega)
   · right
     refine ⟨uint_failed (uint_failed f _) _, g.imp (fun g => ruint_failed (ruint_failed g _) _) fun g => ?_⟩
     exact decide_eq_false (by simp only [RfM.note]; omega)
 · right
   refine ⟨uint_failed (uint_failed (uint_failed f _) _) _, g.imp (fun g => ruint_failed (ruint_failed (ruint_failed g _) _) _) fun g => ?_⟩
   exact decide_eq_false (by simp only [RfM.note]; omega)
theorem Sim.spent {r : RdM} {q : RfM} (h : Sim r q) : (r.spent = q.spent ∧ Sim r.s5 q.s5 ∧ rightIn q.spent = true) ∨ (r.s5.failed = true ∧ (q.s5.fail = true ∨ rightIn q.spent = false)) := by
 rcases h.note with ⟨a1, s1, a2⟩ | ⟨f, g⟩
 · rcases Sim.uint (r := r.n4) (q := q.n4) s1 18446744069414584320 18446744073709551615 (by omega) (.inl (by omega)) with ⟨b1, s2, b2, b3⟩ | ⟨f, g⟩
   · rcases Sim.int (r := r.s1) (q := q.s1) s2 3 4294967296 (by omega) (.inl (by omega)) with ⟨c1, s3, c2, c3⟩ | ⟨f, g⟩
     · rcases Sim.int (r := r.s2) (q := q.s2) s3 4095 4294967296 (by omega) (.inl (by omega)) with ⟨d1, s4, d2, d3⟩ | ⟨f, g⟩
       · rcases Sim.list (r := r.s3) (q := q.s3) s4 12 with ⟨e1, s5, e2, e3⟩ | ⟨f, g⟩
         · rcases Sim.int' (r := r.s4) (q := q.s4) s5 1 with ⟨g1, s6, g2, g3⟩ | ⟨f, g⟩
           · left
             refine ⟨by simp only [RdM.spent, RfM.spent, a1, b1, c1, d1, e1, g1], s6, ?_⟩
             have k1 : elemB (q.n4.uint 18446744073709551615).1 = true := decide_eq_true (by omega)
             have k2 : decide (0 ≤ (q.s1.int 4294967296).1 ∧ (q.s1.int 4294967296).1 < 4) = true := decide_eq_true (by omega)
             have k3 : decide ((q.s3.list 12 18446744069414584321).1.length ≤ 12 ∧ 0 ≤ (q.s2.int 4294967296).1 ∧ (q.s2.int 4294967296).1 < 4096) = true := decide_eq_true (by omega)
             exact and5 k3 a2 k1 k2 e2
           · exact .inr ⟨f, .inl g⟩
         · exact .inr ⟨int_failed f _, .inl (rint_failed g _)⟩
       · right
         refine ⟨int_failed (list_failed f _ _) _, g.imp (fun g => rint_failed (rlist_failed g _ _) _) fun g => ?_⟩
         have k3 : decide ((q.s3.list 12 18446744069414584321).1.length ≤ 12 ∧ 0 ≤ (q.s2.int 4294967296).1 ∧ (q.s2.int 4294967296).1 < 4096) = false := decide_eq_false (by omega)
         exact and1f k3
     · right
       refine ⟨int_failed (list_failed (int_failed f _) _ _) _, g.imp (fun g => rint_failed (rlist_failed (rint_failed g _) _ _) _) fun g => ?_⟩
       have hd : decide (0 ≤ (q.s1.int 4294967296).1 ∧ (q.s1.int 4294967296).1 < 4) = false := decide_eq_false (by omega)
       exact and4f hd
   · right
     refine ⟨int_failed (list_failed (int_failed (int_failed f _) _) _ _) _, g.imp (fun g => rint_failed (rlist_failed (rint_failed (rint_failed g _) _) _ _) _) fun g => ?_⟩
     have hd : elemB (q.n4.uint 18446744073709551615).1 = false := decide_eq_false (by omega)
     simp only [rightIn, RfM.spent, hd, Bool.false_and, Bool.and_false]
 · right
   refine ⟨int_failed (list_failed (int_failed (int_failed (uint_failed f _) _) _) _ _) _, g.imp (fun g => rint_failed (rlist_failed (rint_failed (rint_failed (ruint_failed g _) _) _) _ _) _) fun g => ?_⟩
   simp only [rightIn, RfM.spent, g, Bool.false_and, Bool.and_false]
theorem spents_failed : ∀ (k : Nat) (r : RdM) (acc : List SpentM), r.failed = true → (RdM.spents k r acc).2.failed = true
 | 0, _, _, h => h
 | k + 1, _, _, h => spents_failed k _ _ (spent_failed h)
theorem notes_failed : ∀ (k : Nat) (r : RdM) (acc : List NoteM), r.failed = true → (RdM.notes k r acc).2.failed = true
 | 0, _, _, h => h
 | k + 1, _, _, h => notes_failed k _ _ (note_failed h)
theorem rspents_failed : ∀ (k : Nat) (q : RfM) (acc : List SpentM), q.fail = true → (RfM.spents k q acc).2.fail = true
 | 0, _, _, h => h
 | k + 1, _, _, h => by unfold RfM.spents; rw [if_pos h]; exact h
theorem rnotes_failed : ∀ (k : Nat) (q : RfM) (acc : List NoteM), q.fail = true → (RfM.notes k q acc).2.fail = true
 | 0, _, _, h => h
 | k + 1, _, _, h => by unfold RfM.notes; rw [if_pos h]; exact h
theorem rspents_bad : ∀ (k : Nat) (q : RfM) (acc : List SpentM), acc.all rightIn = false → (RfM.spents k q acc).1.all rightIn = false
 | 0, _, _, h => h
 | k + 1, q, acc, h => by
   unfold RfM.spents
   split
   · exact h
   · exact rspents_bad k _ _ (by rw [List.all_append, h, Bool.false_and])
theorem rnotes_bad : ∀ (k : Nat) (q : RfM) (acc : List NoteM), acc.all noteB = false → (RfM.notes k q acc).1.all noteB = false
 | 0, _, _, h => h
 | k + 1, q, acc, h => by
   unfold RfM.notes
   split
   · exact h
   · exact rnotes_bad k _ _ (by rw [List.all_append, h, Bool.false_and])
theorem Sim.spents : ∀ (k : Nat) (r : RdM) (q : RfM) (acc : List SpentM), Sim r q → acc.all rightIn = true →
   ((RdM.spents k r acc).1 = (RfM.spents k q acc).1 ∧ Sim (RdM.spents k r acc).2 (RfM.spents k q acc).2 ∧ (RfM.spents k q acc).1.all rightIn = true ∧ (RfM.spents k q acc).1.length = acc.length + k) ∨
   ((RdM.spents k r acc).2.failed = true ∧ ((RfM.spents k q acc).2.fail = true ∨ (RfM.spents k q acc).1.all rightIn = false))
 | 0, r, q, acc, h, ha => .inl ⟨rfl, h, ha, rfl⟩
 | k + 1, r, q, acc, h, ha => by
   unfold RdM.spents RfM.spents
   rw [if_neg (by rw [h.qok]; simp)]
   rcases h.spent with ⟨a1, s1, a2⟩ | ⟨f, g⟩
   · rw [a1]
     have := Sim.spents k r.s5 q.s5 (acc ++ [q.spent]) s1 (by rw [List.all_append, ha]; simp [a2])
     rw [List.length_append, List.length_singleton] at this
     rcases this with ⟨b1, b2, b3, b4⟩ | h
     · exact .inl ⟨b1, b2, b3, by omega⟩
     · exact .inr h
   · right
     refine ⟨spents_failed _ _ _ f, ?_⟩
     rcases g with g | g
     · exact .inl (rspents_failed _ _ _ g)
     · exact .inr (rspents_bad _ _ _ (by rw [List.all_append]; simp [g]))
theorem Sim.notes : ∀ (k : Nat) (r : RdM) (q : RfM) (acc : List NoteM), Sim r q → acc.all noteB = true →
   ((RdM.notes k r acc).1 = (RfM.notes k q acc).1 ∧ Sim (RdM.notes k r acc).2 (RfM.notes k q acc).2 ∧ (RfM.notes k q acc).1.all noteB = true ∧ (RfM.notes k q acc).1.length = acc.length + k) ∨
   ((RdM.notes k r acc).2.failed = true ∧ ((RfM.notes k q acc).2.fail = true ∨ (RfM.notes k q acc).1.all noteB = false))
 | 0, r, q, acc, h, ha => .inl ⟨rfl, h, ha, rfl⟩
 | k + 1, r, q, acc, h, ha => by
   unfold RdM.notes RfM.notes
   rw [if_neg (by rw [h.qok]; simp)]
   rcases h.note with ⟨a1, s1, a2⟩ | ⟨f, g⟩
   · rw [a1]
     have := Sim.notes k r.n4 q.n4 (acc ++ [q.note]) s1 (by rw [List.all_append, ha]; simp [a2])
     rw [List.length_append, List.length_singleton] at this
     rcases this with ⟨b1, b2, b3, b4⟩ | h
     · exact .inl ⟨b1, b2, b3, by omega⟩
     · exact .inr h
   · right
     refine ⟨notes_failed _ _ _ f, ?_⟩
     rcases g with g | g
     · exact .inl (rnotes_failed _ _ _ g)
     · exact .inr (rnotes_bad _ _ _ (by rw [List.all_append]; simp [g]))
end Go.Proofs.YtphacfkcifpobaaGreatDoor
/- The reference's field at the big prime: row, Valid, Exponent, Reduce, Add, Mul, Pow, Sum. -/
/- The reference's permutation at the big prime. -/
namespace Go.Proofs.YtphacfkcifpobaaGreatDoor
open Go.ChangeShapes Go.WideShapes Go.ChangeAt Go.RowKit Go.Sort
def TriAt (A B : Obj) (w : World) (q : Nat) (s : T3) (wr : World) : Prop :=
 Below w.heap.size w wr ∧ wr.heap[w.heap.size]? = some A ∧ wr.heap[w.heap.size + 1]? = some B ∧ wr.heap[q]? = some (.cells #[.int .u64 s.1, .int .u64 s.2.1, .int .u64 s.2.2] 118 (0, 0)) ∧ w.heap.size + 1 < q
theorem TriAt.next {A B : Obj} {w w1 w2 : World} {q : Nat} {s : T3} (h : TriAt A B w q s w1) (hb : Below w1.heap.size w1 w2) : TriAt A B w q s w2 :=
 ⟨bnext h.1 hb, box_after hb h.2.1, box_after hb h.2.2.1, box_after hb h.2.2.2.1, h.2.2.2.2⟩
theorem TriAt.one {A B : Obj} {w wr : World} {q : Nat} {s t : T3} (h : TriAt A B w q s wr) (i : Nat) (v : Value) (ht : (#[.int .u64 s.1, .int .u64 s.2.1, .int .u64 s.2.2] : Array Value).setIfInBounds i v = #[.int .u64 t.1, .int .u64 t.2.1, .int .u64 t.2.2]) : TriAt A B w q t (wr.setCell ⟨q, i, none⟩ v) := by
 obtain ⟨h1, h2, h3, h4, h5⟩ := h
 have e0 : w.heap.size ≠ q := by omega
 have e1 : w.heap.size + 1 ≠ q := by omega
 exact ⟨h1.setCell (by show w.heap.size ≤ q; omega) _, box_set_far h2 e0, box_set_far h3 e1, ht ▸ box_set h4, h5⟩
theorem two_new (w : World) (a b : Obj) : ((w.alloc a).alloc b).heap[w.heap.size + 1]? = some b ∧ ((w.alloc a).alloc b).heap[w.heap.size]? = some a := by
 have e1 : (w.alloc a).heap.size = w.heap.size + 1 := World.size_alloc ..
 exact ⟨e1 ▸ box_new _ b, box_old (box_new _ a)⟩
def RpAt (w : World) (s : T3) (wr : World) : Prop :=
 Below w.heap.size w wr ∧ wr.heap[w.heap.size]? = some (.cells #[.int .u64 s.1, .int .u64 s.2.1, .int .u64 s.2.2] 118 (0, 0)) ∧ wr.heap[w.heap.size + 1]? = some (.cells #[.int .u64 0, .int .u64 0, .int .u64 0] 118 (0, 0))
theorem RpAt.next {w w1 w2 : World} {s : T3} (h : RpAt w s w1) (hb : Below w1.heap.size w1 w2) : RpAt w s w2 := ⟨bnext h.1 hb, box_after hb h.2.1, box_after hb h.2.2⟩
theorem RpAt.start (w : World) (s : T3) : RpAt w s ((w.alloc (.cells #[.int .u64 s.1, .int .u64 s.2.1, .int .u64 s.2.2] 118)).alloc (.cells #[.int .u64 0, .int .u64 0, .int .u64 0] 118)) := by
 obtain ⟨q1, q2⟩ := two_new w (.cells #[.int .u64 s.1, .int .u64 s.2.1, .int .u64 s.2.2] 118) (.cells #[.int .u64 0, .int .u64 0, .int .u64 0] 118)
 exact ⟨bnew (bnew (Below.refl _ _) _) _, q2, q1⟩
theorem RpAt.store {w wr : World} {s : T3} (h : RpAt w s wr) (t : T3) : RpAt w t (((wr.setCell ⟨w.heap.size, 0, none⟩ (.int .u64 t.1)).setCell ⟨w.heap.size, 1, none⟩ (.int .u64 t.2.1)).setCell ⟨w.heap.size, 2, none⟩ (.int .u64 t.2.2)) := by
 obtain ⟨h1, h2, h3⟩ := h
 have e1 : w.heap.size + 1 ≠ w.heap.size := by omega
 exact ⟨((h1.setCell (Nat.le_refl _) _).setCell (Nat.le_refl _) _).setCell (Nat.le_refl _) _, box_set (box_set (box_set h2)), box_set_far (box_set_far (box_set_far h3 e1) e1) e1⟩
theorem RpAt.one {w wr : World} {s t : T3} (h : RpAt w s wr) (i : Nat) (v : Value) (ht : (#[.int .u64 s.1, .int .u64 s.2.1, .int .u64 s.2.2] : Array Value).setIfInBounds i v = #[.int .u64 t.1, .int .u64 t.2.1, .int .u64 t.2.2]) : RpAt w t (wr.setCell ⟨w.heap.size, i, none⟩ v) := by
 obtain ⟨h1, h2, h3⟩ := h
 have e1 : w.heap.size + 1 ≠ w.heap.size := by omega
 exact ⟨h1.setCell (Nat.le_refl _) _, ht ▸ box_set h2, box_set_far h3 e1⟩
end Go.Proofs.YtphacfkcifpobaaGreatDoor
/- The reference's sponge at the big prime. -/
namespace Go.Proofs.YtphacfkcifpobaaGreatDoor
open Go.ChangeShapes Go.WideShapes Go.ChangeAt Go.RowKit Go.Sort
def RaAt (w : World) (q : Nat) (s : T3) (wr : World) : Prop :=
 Below w.heap.size w wr ∧ wr.heap[w.heap.size]? = some (.cells #[.int .u64 0, .int .u64 0, .int .u64 0] 118 (0, 0)) ∧ wr.heap[q]? = some (.cells #[.int .u64 s.1, .int .u64 s.2.1, .int .u64 s.2.2] 118 (0, 0)) ∧ w.heap.size < q
theorem RaAt.next {w w1 w2 : World} {q : Nat} {s : T3} (h : RaAt w q s w1) (hb : Below w1.heap.size w1 w2) : RaAt w q s w2 := ⟨bnext h.1 hb, box_after hb h.2.1, box_after hb h.2.2.1, h.2.2.2⟩
theorem RaAt.store {w wr : World} {q : Nat} {s : T3} (h : RaAt w q s wr) (t : T3) : RaAt w q t (((wr.setCell ⟨q, 0, none⟩ (.int .u64 t.1)).setCell ⟨q, 1, none⟩ (.int .u64 t.2.1)).setCell ⟨q, 2, none⟩ (.int .u64 t.2.2)) := by
 obtain ⟨h1, h2, h4, h5⟩ := h
 have e0 : w.heap.size ≠ q := by omega
 have hq : w.heap.size ≤ q := by omega
 exact ⟨((h1.setCell hq _).setCell hq _).setCell hq _, box_set_far (box_set_far (box_set_far h2 e0) e0) e0, box_set (box_set (box_set h4)), h5⟩
theorem RaAt.one {w wr : World} {q : Nat} {s t : T3} (h : RaAt w q s wr) (i : Nat) (v : Value) (ht : (#[.int .u64 s.1, .int .u64 s.2.1, .int .u64 s.2.2] : Array Value).setIfInBounds i v = #[.int .u64 t.1, .int .u64 t.2.1, .int .u64 t.2.2]) : RaAt w q t (wr.setCell ⟨q, i, none⟩ v) := by
 obtain ⟨h1, h2, h4, h5⟩ := h
 have e0 : w.heap.size ≠ q := by omega
 exact ⟨h1.setCell (by show w.heap.size ≤ q; omega) _, box_set_far h2 e0, ht ▸ box_set h4, h5⟩
end Go.Proofs.YtphacfkcifpobaaGreatDoor
/- The reference's elements, keys, notes, nodes. -/
/- The relation: sums, what is valid. -/
namespace Go.Proofs.YtphacfkcifpobaaGreatDoor
open Go.ChangeShapes Go.WideShapes Go.ChangeAt Go.RowKit Go.Sort
structure StIn (S : Nat → Prop) (w : World) (s : StM) (ma ca ra : Option Addr) (mc cc rc : Nat) : Prop where
 anchor : okU s.anchor
 dep : okU s.dep
 wd : okU s.wd
 fee : okU s.fee
 acc : okU s.acc
 bind : okU s.bind
 marks : numsR.rel S w [.slice ma s.marks.length mc] s.marks
 commits : numsR.rel S w [.slice ca s.commits.length cc] s.commits
 rhos : numsR.rel S w [.slice ra s.rhos.length rc] s.rhos
theorem StIn.keepB {S : Nat → Prop} {w w' : World} {s : StM} {ma ca ra : Option Addr} {mc cc rc : Nat} (h : StIn S w s ma ca ra mc cc rc) (hb : Below w.heap.size w w') : StIn S w' s ma ca ra mc cc rc :=
 ⟨h.anchor, h.dep, h.wd, h.fee, h.acc, h.bind, numsR.keepB h.marks hb, numsR.keepB h.commits hb, numsR.keepB h.rhos hb⟩
structure WtIn (S : Nat → Prop) (w : World) (t : WitM) (ia oa : Option Addr) (ic oc : Nat) : Prop where
 ins : spentsR.rel S w [.slice ia t.ins.length ic] t.ins
 outs : notesR.rel S w [.slice oa t.outs.length oc] t.outs
 secret : okU t.secret
theorem WtIn.keepB {S : Nat → Prop} {w w' : World} {t : WitM} {ia oa : Option Addr} {ic oc : Nat} (h : WtIn S w t ia oa ic oc) (hb : Below w.heap.size w w') : WtIn S w' t ia oa ic oc :=
 ⟨spentsR.keepB h.ins hb, notesR.keepB h.outs hb, h.secret⟩
def insSum (l : List SpentM) : Nat → Int
 | 0 => 0
 | k + 1 => IntKind.u64.wrap (insSum l k + ((l.map (fun i => i.note.value)).getD k 0))
def outsSum (l : List NoteM) : Nat → Int
 | 0 => 0
 | k + 1 => IntKind.u64.wrap (outsSum l k + ((l.map (fun n => n.value)).getD k 0))
theorem insSum_step (l : List SpentM) (k : Nat) (h : k < l.length) : insSum l (k + 1) = IntKind.u64.wrap (insSum l k + l[k].note.value) := by
 show IntKind.u64.wrap (insSum l k + _) = _
 rw [getD_at _ _ k (by simpa using h)]; simp
theorem outsSum_step (l : List NoteM) (k : Nat) (h : k < l.length) : outsSum l (k + 1) = IntKind.u64.wrap (outsSum l k + l[k].value) := by
 show IntKind.u64.wrap (outsSum l k + _) = _
 rw [getD_at _ _ k (by simpa using h)]; simp
set_option maxHeartbeats 1000000 in
theorem inputs_any (S : Nat → Prop) (w : World) (t : WitM) (ia oa : Option Addr) (ic oc : Nat) (h : WtIn S w t ia oa ic oc) :
   Calls Tryz.prog 345 #[.agg #[.slice ia t.ins.length ic, .slice oa t.outs.length oc, .int .u64 t.secret]] w fun e w' => e = .returned (.int .u64 (insSum t.ins t.ins.length)) ∧ Below w.heap.size w w' := by
 have g1 := (sliceR.lens h.ins).2; unfold maxLen at g1; have hb0 := bnew (Below.refl w.heap.size w) (.cells #[.slice ia t.ins.length ic, .slice oa t.outs.length oc, .int .u64 t.secret] 248); have H := Lib.hid (h.keepB hb0); clear h
 go_enter Tryz.func345, Tryz.ntmps345
 go_wp2_with fail
 go_loopw [3, 9] (fun vs vi wr => ∃ k : Nat, k ≤ t.ins.length ∧ vi = .int .i64 k ∧ vs = .int .u64 (insSum t.ins k) ∧ Below (w.alloc (.cells #[.slice ia t.ins.length ic, .slice oa t.outs.length oc, .int .u64 t.secret] 248)).heap.size (w.alloc (.cells #[.slice ia t.ins.length ic, .slice oa t.outs.length oc, .int .u64 t.secret] 248)) wr) (fun _ vi _ => t.ins.length - (intOf vi).toNat)
 case atStart => exact ⟨0, Nat.zero_le _, rfl, rfl, Below.refl _ _⟩
 case round =>
   obtain ⟨k, hk, rfl, rfl, hbr⟩ := hrel
   by_cases hlt : k < t.ins.length
   · obtain ⟨b, off, pa, pc, rfl, hbl, hok, hpa, c0, c1, c2, c3, c4, c5, c6, c7, c8⟩ := spents_at (spentsR.keepB H.out.ins hbr) k hlt
     have HS : Hid (insSum t.ins (k + 1) = IntKind.u64.wrap (insSum t.ins k + t.ins[k].note.value)) := insSum_step t.ins k hlt; clear hpa; generalize t.ins[k] = i at *; generalize insSum t.ins k = m at *; have hbn := bnew (Below.refl wr.heap.size wr) (.cells #[.int .u64 i.note.value, .int .u64 i.note.owner, .int .u64 i.note.rho, .int .u64 i.note.blind, .int .u64 i.key, .int .i64 i.number, .int .i64 i.position, .slice pa i.path.length pc, .bool i.dummy] 266); go_wp2_with fail
     go_roundw
     case rel => exact ⟨k + 1, by omega, by go_num, by rw [HS.out], bnext hbr hbn⟩
     case measure => simp [intOf]; omega
   · obtain rfl : k = t.ins.length := by omega
     go_wp2_with fail; go_ret
     exact ⟨rfl, bnext hb0 hbr⟩
set_option maxHeartbeats 1000000 in
theorem outputs_any (S : Nat → Prop) (w : World) (t : WitM) (ia oa : Option Addr) (ic oc : Nat) (h : WtIn S w t ia oa ic oc) :
   Calls Tryz.prog 346 #[.agg #[.slice ia t.ins.length ic, .slice oa t.outs.length oc, .int .u64 t.secret]] w fun e w' => e = .returned (.int .u64 (outsSum t.outs t.outs.length)) ∧ Below w.heap.size w w' := by
 have g1 := (sliceR.lens h.outs).2; unfold maxLen at g1; have hb0 := bnew (Below.refl w.heap.size w) (.cells #[.slice ia t.ins.length ic, .slice oa t.outs.length oc, .int .u64 t.secret] 248); have H := Lib.hid (h.keepB hb0); clear h
 go_enter Tryz.func346, Tryz.ntmps346
 go_wp2_with fail
 go_loopw [3, 9] (fun vs vi wr => ∃ k : Nat, k ≤ t.outs.length ∧ vi = .int .i64 k ∧ vs = .int .u64 (outsSum t.outs k) ∧ Below (w.alloc (.cells #[.slice ia t.ins.length ic, .slice oa t.outs.length oc, .int .u64 t.secret] 248)).heap.size (w.alloc (.cells #[.slice ia t.ins.length ic, .slice oa t.outs.length oc, .int .u64 t.secret] 248)) wr) (fun _ vi _ => t.outs.length - (intOf vi).toNat)
 case atStart => exact ⟨0, Nat.zero_le _, rfl, rfl, Below.refl _ _⟩
 case round =>
   obtain ⟨k, hk, rfl, rfl, hbr⟩ := hrel
   by_cases hlt : k < t.outs.length
   · obtain ⟨b, off, rfl, hbl, hok, c0, c1, c2, c3⟩ := notes_at (notesR.keepB H.out.outs hbr) k hlt
     have HS : Hid (outsSum t.outs (k + 1) = IntKind.u64.wrap (outsSum t.outs k + t.outs[k].value)) := outsSum_step t.outs k hlt; generalize t.outs[k] = n at *; generalize outsSum t.outs k = m at *; have hbn := bnew (Below.refl wr.heap.size wr) (.cells #[.int .u64 n.value, .int .u64 n.owner, .int .u64 n.rho, .int .u64 n.blind] 96); go_wp2_with fail
     go_roundw
     case rel => exact ⟨k + 1, by omega, by go_num, by rw [HS.out], bnext hbr hbn⟩
     case measure => simp [intOf]; omega
   · obtain rfl : k = t.outs.length := by omega
     go_wp2_with fail; go_ret
     exact ⟨rfl, bnext hb0 hbr⟩
end Go.Proofs.YtphacfkcifpobaaGreatDoor
