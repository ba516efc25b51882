/- Peek. -/
import Derived.Test.YthggdacincfplaaGreatDoorPeek
import Derived.MapKept
namespace Go.Proofs.YthggdacincfplaaGreatDoor
open Go.ChangeShapes Go.WideShapes Go.ChangeAt Go.RowKit

theorem lookup_empty (w : World) (mk : Nat) (h : w.heap[mk]? = some (.map #[] 0)) (s : ByteArray) : (Instr.lookup 53 (.map (some mk)) (.string s) true).run Tryz.prog w = .ok (.tuple #[.int .i64 0, .bool false]) w := by
  have hz : (zeroValue 3).run Tryz.prog w = .ok (.int .i64 0) w := by
    have h0 : (Tryz.prog.info? 3).map (·.zero) = some (some (.int .i64 0)) := by kernel_rfl
    obtain ⟨i, hi, hz⟩ := Option.map_eq_some_iff.1 h0
    simp [zeroValue, typeInfo, hi, hz]
  have hck := MapKept.run_checkKey (P := Tryz.prog) (w := w) (k := .string s) Tryz.underlying9 (by simp [MapKept.IsKey]) true 9999
  have hfk := MapKept.run_findKey (P := Tryz.prog) (w := w) (k := .string s) (l := []) (a := none) Tryz.underlying9 rfl
  simp [Instr.lookup, run_underlying Tryz.underlying53, MapKept.run_getObj_map h, hck, hfk, hz]
theorem key_one (S S' : Nat → Prop) (w : World) (a b : Option Addr) (ca cb : Nat) (l : List Int) (x : Int) (h : numsR.rel S w [.slice a l.length ca] l) (h' : numsR.rel S' w [.slice b 1 cb] [x]) (hl : l.length ≤ 1000) :
    Calls Tryz.prog 102 #[.slice a l.length ca, .slice b 1 cb] w fun e w' => (∃ s, e = .returned (.string s)) ∧ Below w.heap.size w w' := key_any S S' w a b ca cb l [x] h h' hl (by simp)
/-- The map of what is known is empty. -/
abbrev PeekS (p mk : Nat) (w w' : World) : Prop := Below w.heap.size w w' ∧ w'.cell? ⟨p, 4, none⟩ = some (.map (some mk)) ∧ w'.heap[mk]? = some (.map #[] 0)
theorem PeekS.drew {p mk : Nat} {w w' : World} (h : PeekS p mk w w') : PeekS p mk w w'.drew := ⟨h.1.drew, h.2.1, h.2.2⟩
theorem PeekS.next {p mk : Nat} {w w1 w2 : World} (h : PeekS p mk w w1) (hb : Below w1.heap.size w1 w2) : PeekS p mk w w2 := ⟨bnext h.1 hb, (hb.cell (cell_lt h.2.1)).trans h.2.1, box_after hb h.2.2⟩
theorem PeekS.alloc {p mk : Nat} {w w1 : World} (h : PeekS p mk w w1) (o : Obj) : PeekS p mk w (w1.alloc o) := h.next (bnew (Below.refl _ _) o)
def peekS (label : Int) (l : List Int) : Int := if elemsB l = true then hashS label l else 0
set_option maxRecDepth 100000 in
set_option maxHeartbeats 2000000 in
theorem peek_any (S : Nat → Prop) (w : World) (p : Nat) (st : Int) (ho : OrAt false st p w) (label : Int) (l0 : 0 ≤ label) (l1 : label < 18446744073709551616) (a : Option Addr) (cap : Nat) (l : List Int) (h : numsR.rel S w [.slice a l.length cap] l) (hl : l.length ≤ 1000) :
    Calls Tryz.prog 99 #[.pointer (some ⟨p, 0, none⟩), .int .u64 label, .slice a l.length cap] w fun e w' => e = .returned (.tuple #[.int .u64 (peekS label l), .bool (elemsB l)]) ∧ Below w.heap.size w w' := by
  have H := Lib.hid h
  have HO := Lib.hid ho
  clear h ho
  go_enter Tryz.func99, Tryz.ntmps99
  go_wp2_with fail
  refine (oelements_any S w a cap l H.out).mono ?_
  rintro e w1 ⟨rfl, hb1⟩
  cases he : elemsB l with
  | false =>
    have HP : Hid (peekS label l = 0) := by show _ = _; unfold peekS; rw [he]; rfl
    go_wp2_with fail
    go_ret2
    rw [HP.out, he]
    exact ⟨rfl, hb1⟩
  | true =>
    have HP : Hid (peekS label l = hashS label l) := by show _ = _; unfold peekS; rw [he]; rfl
    have HO1 := Lib.hid (HO.out.keepB hb1)
    obtain ⟨mk, ms, mp, q1, q2, q3, q4⟩ := HO1.out
    have hst : PeekS p mk w1 w1 := ⟨Below.refl _ _, (box_cells q1).1 4, q2⟩
    have HST := Lib.hid hst
    have hlk := @lookup_empty
    clear hst q1 q2 q3 q4
    have HL : Hid (okU label) := okU_of l0 l1
    go_wp2_with fail
    go_cut [8, 9] from 10 (fun v8 v9 wc => v9 = .bool false ∧ Below w1.heap.size w1 wc)
    case first =>
      go_region_held3 (fun w' => Below w1.heap.size w1 w' ∧ w'.cell? ⟨p, 4, none⟩ = some (.map (some mk)) ∧ w'.heap[mk]? = some (.map #[] 0))
        (first
          | with_reducible exact PeekS.drew HST.out
          | with_reducible exact HK.out
          | with_reducible exact PeekS.drew (PeekS.alloc HST.out _))
        (first
          | (go_at_call 102
             refine (key_one S (fun _ => True) _ _ _ _ _ l label (numsR.keepB (numsR.keepB H.out hb1) (‹Below w1.heap.size w1 _ ∧ _›).1) (numsR.keepB (nums_new w1 _ [label] 1 (by intro x hx; simp at hx; subst hx; exact HL.out) (by simp) (by unfold maxLen; omega)) (Below.refl _ _).drew) hl).mono ?_
             rintro e w3 ⟨⟨s, rfl⟩, hbK⟩
             have HK := Lib.hid (PeekS.next (‹Below w1.heap.size w1 _ ∧ _› : PeekS p mk w1 _) hbK)))
      go_wp2_with fail
      go_meet
      case rel => exact ⟨rfl, HK.out.1⟩
    case rest =>
      obtain ⟨rfl, hbc⟩ := hcut
      have hbw := bnext hb1 hbc
      obtain ⟨mk, ms, mp, q1, -⟩ := HO.out.keepB hbw
      obtain ⟨c0, c1⟩ := box_cells q1
      clear q1
      go_wp2_with fail
      refine (Hash_big label l0 S wc a cap l (numsR.keepB H.out hbw) (by omega)).mono ?_
      rintro e w4 ⟨rfl, hb4⟩
      go_wp2_with fail
      go_ret2
      rw [HP.out, he]
      exact ⟨rfl, bnext hbw hb4⟩
end Go.Proofs.YthggdacincfplaaGreatDoor
