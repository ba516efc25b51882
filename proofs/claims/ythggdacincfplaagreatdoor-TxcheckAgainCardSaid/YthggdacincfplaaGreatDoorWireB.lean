/- The wire's writers: what they append. -/
import Derived.Test.YthggdacincfplaaGreatDoorWire
import Derived.Test.YthggdacincfplaaGreatDoorKitI
import Derived.Test.YthggdacincfplaaGreatDoorSpec
namespace Go.Proofs.YthggdacincfplaaGreatDoor
open Go.ChangeShapes Go.WideShapes Go.ChangeAt Go.RowKit

set_option maxRecDepth 100000 in
set_option maxHeartbeats 1000000 in
theorem room_any (S : Nat → Prop) (w : World) (a : Option Addr) (cap : Nat) (xs : List Int) (h : bytesR.rel S w [.slice a xs.length cap] xs) (n : Nat) (hx : xs.length + n ≤ 1000000000) :
    Calls Tryz.prog 89 #[.slice a xs.length cap, .int .i64 n] w (GrewTo w.heap.size w xs) := by
  have hxl : xs.length ≤ 1000000000 := by omega
  have H := Lib.hid h
  clear h
  obtain ⟨cs, hcs⟩ : ∃ cs, cs = xs.map (Value.int .u8) := ⟨_, rfl⟩
  have HC := Lib.hid hcs
  have hcl : cs.length = xs.length := by rw [hcs]; simp
  have HL := Lib.hid hcl
  clear hcs hcl
  go_enter Tryz.func89, Tryz.ntmps89
  go_wp2_with (at_make; refine wpList_make_lc rfl _ _ rfl Tryz.etyBytes (n := xs.length) (m := xs.length + n) rfl rfl ?_ ?_ ?_ ?_ ?_ ?_)
  · go_num
  · go_num
  · omega
  · omega
  · unfold maxLen; omega
  intro cur hcur w1 hg1 hb1 hz1
  have HG := Lib.hid hg1
  have HCU := Lib.hid hcur
  clear hg1 hcur
  go_wp2_with (refine wpList_copy_splice rfl (.tmp 13) (.tmp 14) 34 34 rfl 5 Tryz.underlying34 (by kernel_rfl) _ _ _ _ _ _ rfl rfl w.heap.size 0 cur 5 HG.out cs ?_ ?_ ?_ ?_ w.heap.size w hb1 (Nat.le_refl _) ?_)
  · rw [HL.out]; simp
  · intro h0
    rw [HL.out] at h0
    obtain ⟨ad, had, hc⟩ := ints_cells (bytesR.keepB H.out hb1) h0
    have hc' : ∀ j v, cs[j]? = some v → w1.cell? (ad.add j) = some v := fun j v hj => hc j v (by rw [← HC.out]; exact hj)
    exact ⟨ad, had, hc'⟩
  · rw [HL.out, HCU.out]; omega
  · intro v hv
    rw [HC.out] at hv
    obtain ⟨x, -, rfl⟩ := List.mem_map.1 hv
    rfl
  intro w2 HG2 hb2
  have hfin : Own u8R w.heap.size 5 (fun x => False ∨ w.heap.size ≤ x) w2 (.slice (some ⟨w.heap.size, 0, none⟩) xs.length (xs.length + n)) xs := by
    refine own_ints HG2.out ?_ ?_ (ints_wf H.out) (by omega) (by unfold maxLen; omega) (Nat.le_refl _)
    · rw [length_splice _ _ _ (by rw [HL.out, HCU.out]; omega), HCU.out]
    · unfold splice
      rw [List.take_zero, List.nil_append, ← HC.out]
      exact List.take_left' HL.out
  go_wp2_with fail
  go_ret
  exact ⟨_, rfl, hfin, hb2⟩

/-- The call returned a slice that reads as ys; nothing that was there has changed. -/
abbrev GivesB (ys : List Int) (w : World) : Ending → World → Prop := GivesS u8R (fun _ => True) ys w
theorem GrewTo.gives {B : Nat} {w w' : World} {ys : List Int} {e : Ending} (hB : B = w.heap.size) (h : GrewTo B w ys e w') : GivesB ys w e w' := by
  subst hB
  obtain ⟨v, rfl, ho, hb⟩ := h
  exact GivesS.mk (bytesR.mono ho.slice fun _ _ _ => trivial) hb

theorem appendLength_any (w0 w : World) (B : Nat) (hb : Below B w0 w) (hB0 : B ≤ w0.heap.size) (v : Value) (xs : List Int) (ho : Own u8R B 5 (fun x => False ∨ B ≤ x) w v xs) (n : Nat) (hn : n ≤ 4294967295)
    (hl : xs.length ≤ 1000000000) : Calls Tryz.prog 167 #[v, .int .i64 n] w (GrewTo B w0 (xs ++ digs 4 n)) := by
  go_enter Tryz.func167, Tryz.ntmps167
  go_wp2_with fail
  refine (appendDigits_any w0 w B hb hB0 v xs ho n (by omega) (by omega) 4 (by omega) hl).mono ?_
  rintro e w1 ⟨v', rfl, ho', hb'⟩
  go_wp2_with fail
  go_ret
  exact ⟨v', rfl, ho', hb'⟩

theorem Uint_any (S : Nat → Prop) (w : World) (a : Option Addr) (cap : Nat) (xs : List Int) (h : bytesR.rel S w [.slice a xs.length cap] xs) (n : Int) (n0 : 0 ≤ n) (n1 : n < 18446744073709551616) (hx : xs.length ≤ 100000000) :
    Calls Tryz.prog 104 #[.slice a xs.length cap, .int .u64 n] w (GivesB (xs ++ digs 8 n) w) := by
  go_enter Tryz.func104, Tryz.ntmps104
  go_wp2_with fail
  refine (room_any S w a cap xs h 8 (by omega)).mono ?_
  rintro e w1 ⟨v, rfl, ho, hb⟩
  go_wp2_with fail
  refine (appendDigits_any w w1 w.heap.size hb (Nat.le_refl _) v xs ho n n0 n1 8 (by omega) (by omega)).mono ?_
  intro e w2 hg
  have HG := Lib.hid (GrewTo.gives rfl hg)
  obtain ⟨v', rfl, -, -⟩ := hg
  go_wp2_with fail
  go_ret
  exact HG.out

theorem Int_any (S : Nat → Prop) (w : World) (a : Option Addr) (cap : Nat) (xs : List Int) (h : bytesR.rel S w [.slice a xs.length cap] xs) (n : Nat) (n1 : n ≤ 4294967295) (hx : xs.length ≤ 100000000) :
    Calls Tryz.prog 106 #[.slice a xs.length cap, .int .i64 n] w (GivesB (xs ++ digs 4 n) w) := by
  go_enter Tryz.func106, Tryz.ntmps106
  go_wp2_with fail
  refine (room_any S w a cap xs h 4 (by omega)).mono ?_
  rintro e w1 ⟨v, rfl, ho, hb⟩
  go_wp2_with fail
  refine (appendLength_any w w1 w.heap.size hb (Nat.le_refl _) v xs ho n n1 (by omega)).mono ?_
  intro e w2 hg
  have HG := Lib.hid (GrewTo.gives rfl hg)
  obtain ⟨v', rfl, -, -⟩ := hg
  go_wp2_with fail
  go_ret
  exact HG.out

def digsAll : List Int → List Int
  | [] => []
  | n :: l => digs 8 n ++ digsAll l
theorem digsAll_len : ∀ l, (digsAll l).length = 8 * l.length
  | [] => rfl
  | n :: l => by simp [digsAll, digs_len, digsAll_len l]; omega
theorem digsAll_snoc : ∀ (l : List Int) (n : Int), digsAll (l ++ [n]) = digsAll l ++ digs 8 n
  | [], n => by simp [digsAll]
  | x :: l, n => by simp [digsAll, digsAll_snoc l n]

set_option maxHeartbeats 1000000 in
theorem List_any (S S' : Nat → Prop) (w : World) (a : Option Addr) (cap : Nat) (xs : List Int) (h : bytesR.rel S w [.slice a xs.length cap] xs) (la : Option Addr) (lc : Nat) (l : List Int) (hl : numsR.rel S' w [.slice la l.length lc] l) (hx : xs.length ≤ 100000000) (hll : l.length ≤ 10000000) :
    Calls Tryz.prog 105 #[.slice a xs.length cap, .slice la l.length lc] w (GivesB (xs ++ digs 4 l.length ++ digsAll l) w) := by
  have HL := Lib.hid hl
  clear hl
  go_enter Tryz.func105, Tryz.ntmps105
  go_wp2_with fail
  refine (room_any S w a cap xs h (4 + 8 * l.length) (by omega)).mono ?_
  rintro e w1 ⟨v, rfl, ho, hb⟩
  go_wp2_with fail
  refine (appendLength_any w w1 w.heap.size hb (Nat.le_refl _) v xs ho l.length (by omega) (by omega)).mono ?_
  rintro e w2 ⟨v2, rfl, ho2, hb2⟩
  have HO2 := Lib.hid ho2
  clear ho ho2
  go_wp2_with fail
  go_loopw [5, 19] (fun vb vi wr => ∃ k : Nat, k ≤ l.length ∧ vi = .int .i64 k ∧ Own u8R w.heap.size 5 (fun x => False ∨ w.heap.size ≤ x) wr vb (xs ++ digs 4 l.length ++ digsAll (l.take k)) ∧ Below w.heap.size w wr) (fun _ vi _ => l.length - (intOf vi).toNat)
  case atStart => exact ⟨0, Nat.zero_le _, rfl, by simpa [digsAll] using HO2.out, hb2⟩
  case round =>
    obtain ⟨k, hk, rfl, hor, hbr⟩ := hrel
    by_cases hlt : k < l.length
    · obtain ⟨b, off, rfl, hbl, n0, n1, hc⟩ := nums_at (numsR.keepB HL.out hbr) k hlt
      have HS : Hid (xs ++ digs 4 l.length ++ digsAll (l.take (k + 1)) = (xs ++ digs 4 l.length ++ digsAll (l.take k)) ++ digs 8 l[k]) := by
        show _ = _
        rw [List.take_succ_eq_append_getElem hlt, digsAll_snoc]; simp only [List.append_assoc]
      have hln : (xs ++ digs 4 l.length ++ digsAll (l.take k)).length ≤ 1000000000 := by
        simp only [List.length_append, digs_len, digsAll_len, List.length_take]; omega
      generalize l[k] = n at *
      generalize xs ++ digs 4 l.length ++ digsAll (l.take k) = ys at *
      go_wp2_with fail
      refine (appendDigits_any w wr w.heap.size hbr (Nat.le_refl _) _ ys hor n n0 n1 8 (by omega) hln).mono ?_
      rintro e w3 ⟨v3, rfl, ho3, hb3⟩
      go_wp2_with fail
      go_roundw
      case rel => exact ⟨k + 1, by omega, by go_num, by rw [HS.out]; exact ho3, hb3⟩
      case measure => simp [intOf]; omega
    · obtain rfl : k = l.length := by omega
      rw [List.take_length] at hor
      have HG := Lib.hid (GivesS.mk (bytesR.mono hor.slice fun _ _ _ => trivial) hbr)
      go_wp2_with fail
      go_ret
      exact HG.out

set_option maxHeartbeats 1000000 in
theorem Bytes_any (S S' : Nat → Prop) (w : World) (a : Option Addr) (cap : Nat) (xs : List Int) (h : bytesR.rel S w [.slice a xs.length cap] xs) (la : Option Addr) (lc : Nat) (l : List Int) (hl : bytesR.rel S' w [.slice la l.length lc] l) (hx : xs.length ≤ 100000000) (hll : l.length ≤ 10000000) :
    Calls Tryz.prog 107 #[.slice a xs.length cap, .slice la l.length lc] w (GivesB (xs ++ (digs 4 l.length ++ l)) w) := by
  have HL := Lib.hid hl
  clear hl
  go_enter Tryz.func107, Tryz.ntmps107
  go_wp2_with fail
  refine (room_any S w a cap xs h (4 + l.length) (by omega)).mono ?_
  rintro e w1 ⟨v, rfl, ho, hb⟩
  go_wp2_with fail
  refine (appendLength_any w w1 w.heap.size hb (Nat.le_refl _) v xs ho l.length (by omega) (by omega)).mono ?_
  rintro e w2 ⟨v2, rfl, ho2, hb2⟩
  have HO2 := Lib.hid ho2
  have HL2 := Lib.hid (Src.plain (S' := fun _ => False) (Plain.int .u8) (Src.of_slice (bytesR.keepB HL.out hb2)))
  have hln : (xs ++ digs 4 l.length).length + l.length ≤ 1000000000 := by simp only [List.length_append, digs_len]; omega
  clear ho ho2
  go_wp2_with (at_builtin; refine wpList_append_rel (r := u8R) (base := w.heap.size) rfl _ _ rfl Tryz.etyBytes rfl rfl HO2.out HL2.out (fun _ _ h => h.elim) (fun _ _ h => h) (by unfold maxLen; omega) (by omega) hb2.size ?_)
  intro v3 w3 ho3 hk3 _
  have hb3 : Below w.heap.size w w3 := Kept.behind hb2 hk3 hb2.size fun k hk h => by have := (HO2.out.lt h).2.2; omega
  have HG := Lib.hid (GivesS.mk (bytesR.mono ho3.slice fun _ _ _ => trivial) hb3)
  clear ho3
  go_wp2_with fail
  go_ret
  exact HG.out
end Go.Proofs.YthggdacincfplaaGreatDoor
