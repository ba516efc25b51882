/- Notes: commitments, marks, paths. -/
import Derived.Test.YthggdacincfplaaGreatDoorPeekB
import Derived.Test.YthggdacincfplaaGreatDoorHash
namespace Go.Proofs.YthggdacincfplaaGreatDoor
open Go.ChangeShapes Go.WideShapes Go.ChangeAt Go.RowKit

theorem noteElems_any (w : World) (n : NoteM) (hn : NoteOk n) : Calls Tryz.prog 100 #[.agg #[.int .u64 n.value, .int .u64 n.owner, .int .u64 n.rho, .int .u64 n.blind]] w
    fun e w' => (∃ a cap, e = .returned (.slice a 4 cap) ∧ numsR.rel (fun _ => True) w' [.slice a 4 cap] [n.value, n.owner, n.rho, n.blind]) ∧ Below w.heap.size w w' := by
  have HX := Lib.hid (nums4 (w.alloc (.cells #[.int .u64 n.value, .int .u64 n.owner, .int .u64 n.rho, .int .u64 n.blind] 113)) 24 hn.value hn.owner hn.rho hn.blind)
  clear hn
  go_enter Tryz.func100, Tryz.ntmps100
  go_wp2_with fail
  go_ret
  exact ⟨⟨_, _, rfl, by simpa using HX.out⟩, bnew (bnew (Below.refl _ _) _) _⟩
def commitV (n : NoteM) : Int := if noteB n = true then hashS 2 [n.value, n.owner, n.rho, n.blind] else 0
theorem noteB_elems {n : NoteM} (h : noteB n = true) : elemsB [n.value, n.owner, n.rho, n.blind] = true := by
  unfold noteB at h
  rw [decide_eq_true_eq] at h
  simp [elemsB, allUp, elemB]
  omega
set_option maxRecDepth 100000 in
set_option maxHeartbeats 1000000 in
theorem commitment_any (w : World) (p : Nat) (st : Int) (ho : OrAt false st p w) (n : NoteM) (hn : NoteOk n) : Calls Tryz.prog 47 #[.pointer (some ⟨p, 0, none⟩), .agg #[.int .u64 n.value, .int .u64 n.owner, .int .u64 n.rho, .int .u64 n.blind]] w
    fun e w' => e = .returned (.tuple #[.int .u64 (commitV n), .bool (noteB n)]) ∧ Below w.heap.size w w' := by
  have hb0 := bnew (Below.refl w.heap.size w) (.cells #[.int .u64 n.value, .int .u64 n.owner, .int .u64 n.rho, .int .u64 n.blind] 113)
  have HX := Lib.hid (box_new w (.cells #[.int .u64 n.value, .int .u64 n.owner, .int .u64 n.rho, .int .u64 n.blind] 113))
  have HO := Lib.hid (ho.keepB hb0)
  have HB := Lib.hid hb0
  clear hb0 ho
  go_enter Tryz.func47, Tryz.ntmps47
  go_wp2_with fail
  refine (noteValid_any _ n).mono ?_
  rintro e w1 ⟨rfl, hb1⟩
  obtain ⟨x0, x1⟩ := box_cells (box_after hb1 HX.out)
  have hw1 := bnext HB.out hb1
  cases hv : noteB n with
  | false =>
    have HV : Hid (commitV n = 0) := by show _ = _; unfold commitV; rw [hv]; rfl
    go_wp2_with fail
    go_ret2
    rw [HV.out, hv]
    exact ⟨rfl, hw1⟩
  | true =>
    have HV : Hid (commitV n = hashS 2 [n.value, n.owner, n.rho, n.blind]) := by show _ = _; unfold commitV; rw [hv]; rfl
    have HE := Lib.hid (noteB_elems hv)
    go_wp2_with fail
    refine (noteElems_any w1 n hn).mono ?_
    rintro e w2 ⟨⟨a, cap, rfl, hr⟩, hb2⟩
    have hw2 := bnext hw1 hb2
    go_wp2_with fail
    refine (peek_any (fun _ => True) w2 p st (HO.out.keepB (bnext hb1 hb2)) 2 (by omega) (by omega) a cap [n.value, n.owner, n.rho, n.blind] hr (by simp)).mono ?_
    rintro e w3 ⟨rfl, hb3⟩
    have hp : peekS 2 [n.value, n.owner, n.rho, n.blind] = hashS 2 [n.value, n.owner, n.rho, n.blind] := by unfold peekS; rw [HE.out]; rfl
    rw [HE.out, hp]
    clear hp
    go_wp2_with fail
    go_ret2
    rw [HV.out, hv]
    exact ⟨rfl, bnext hw2 hb3⟩
def markK (key rho : Int) : Bool := decide (key < 18446744069414584321 ∧ rho < 18446744069414584321)
def markV (key rho : Int) : Int := if markK key rho = true then hashS 3 [key, rho] else 0
set_option maxRecDepth 100000 in
set_option maxHeartbeats 1000000 in
theorem marked_any (w : World) (p : Nat) (st : Int) (ho : OrAt false st p w) (key rho : Int) (hk : okU key) (hr : okU rho) : Calls Tryz.prog 96 #[.pointer (some ⟨p, 0, none⟩), .int .u64 key, .int .u64 rho] w
    fun e w' => e = .returned (.tuple #[.int .u64 (markV key rho), .bool (markK key rho)]) ∧ Below w.heap.size w w' := by
  have HX := Lib.hid (nums2 w 24 hk hr)
  have hb0 := bnew (Below.refl w.heap.size w) (.cells #[.int .u64 key, .int .u64 rho] 24)
  have HO := Lib.hid (ho.keepB hb0)
  have HB := Lib.hid hb0
  clear hb0 ho
  by_cases h1 : key < 18446744069414584321
  · by_cases h2 : rho < 18446744069414584321
    · have hv : markK key rho = true := decide_eq_true ⟨h1, h2⟩
      have HV : Hid (markV key rho = hashS 3 [key, rho]) := by show _ = _; unfold markV; rw [hv]; rfl
      have HK := Lib.hid hv
      have HE : Hid (elemsB [key, rho] = true) := by show _ = _; simp [elemsB, allUp, elemB]; omega
      clear hv
      go_enter Tryz.func96, Tryz.ntmps96
      go_wp2_with fail
      refine (peek_any (fun _ => True) _ p st HO.out 3 (by omega) (by omega) _ _ [key, rho] HX.out (by simp)).mono ?_
      rintro e w3 ⟨rfl, hb3⟩
      have hp : peekS 3 [key, rho] = hashS 3 [key, rho] := by unfold peekS; rw [HE.out]; rfl
      rw [HE.out, hp]
      clear hp
      go_wp2_with fail
      go_ret2
      rw [HV.out, HK.out]
      exact ⟨rfl, bnext HB.out hb3⟩
    · have hv : markK key rho = false := decide_eq_false (fun h => h2 h.2)
      have HV : Hid (markV key rho = 0) := by show _ = _; unfold markV; rw [hv]; rfl
      have HK := Lib.hid hv
      clear hv
      go_enter Tryz.func96, Tryz.ntmps96
      go_wp2_with fail
      go_ret2
      rw [HV.out, HK.out]
      exact ⟨rfl, Below.refl _ _⟩
  · have hv : markK key rho = false := decide_eq_false (fun h => h1 h.1)
    have HV : Hid (markV key rho = 0) := by show _ = _; unfold markV; rw [hv]; rfl
    have HK := Lib.hid hv
    clear hv
    go_enter Tryz.func96, Tryz.ntmps96
    go_wp2_with fail
    go_ret2
    rw [HV.out, HK.out]
    exact ⟨rfl, Below.refl _ _⟩
/-- The nodes above a leaf. -/
def climbTo (leaf pos : Int) (path : List Int) : Nat → Int
  | 0 => leaf
  | k + 1 => if (bits BinOp.and IntKind.i64 (pos / 2 ^ k) 1 == 0) = true then hashS 6 [climbTo leaf pos path k, path.getD k 0] else hashS 6 [path.getD k 0, climbTo leaf pos path k]
theorem climbTo_ok {leaf pos : Int} {path : List Int} (h : okU leaf) : ∀ k, okU (climbTo leaf pos path k)
  | 0 => h
  | k + 1 => by unfold climbTo; split <;> exact hashS_ok _ _
def climbS (leaf pos : Int) (path : List Int) : Int :=
  if path.length ≤ 12 ∧ 0 ≤ pos ∧ pos < 2 ^ path.length ∧ leaf < 18446744069414584321 ∧ elemsB path = true then climbTo leaf pos path path.length else 0
theorem pow12 : ∀ k : Fin 13, IntKind.i64.wrap (2 ^ k.val) = 2 ^ k.val ∧ (0 : Int) < 2 ^ k.val ∧ (2 : Int) ^ k.val ≤ 4096 := by decide +kernel
end Go.Proofs.YthggdacincfplaaGreatDoor
