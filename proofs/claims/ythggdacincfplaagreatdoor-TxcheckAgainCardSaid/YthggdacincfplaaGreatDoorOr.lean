/- Oracles: made and asked for their mode. -/
import Derived.Test.YthggdacincfplaaGreatDoorTx
namespace Go.Proofs.YthggdacincfplaaGreatDoor
open Go.ChangeShapes Go.WideShapes Go.ChangeAt Go.RowKit

/-- At block p: an oracle that has recorded nothing. -/
def OrAt (ideal : Bool) (st : Int) (p : Nat) (w : World) : Prop :=
  ∃ mk ms mp, w.heap[p]? = some (.cells #[.bool ideal, .int .u64 st, .int .i64 0, .slice none 0 0, .map (some mk), .map (some ms), .map (some mp)] 58 (0, 0)) ∧
    w.heap[mk]? = some (.map #[] 0) ∧ w.heap[ms]? = some (.map #[] 0) ∧ w.heap[mp]? = some (.map #[] 0)
theorem OrAt.keepB {ideal : Bool} {st : Int} {p : Nat} {w w' : World} (h : OrAt ideal st p w) (hb : Below w.heap.size w w') : OrAt ideal st p w' := by
  obtain ⟨mk, ms, mp, h1, h2, h3, h4⟩ := h
  exact ⟨mk, ms, mp, box_after hb h1, box_after hb h2, box_after hb h3, box_after hb h4⟩
/-- A new oracle was returned; nothing that was there has changed. -/
def NewOr (ideal : Bool) (st : Int) (w : World) (e : Ending) (w' : World) : Prop :=
  ∃ p, e = .returned (.pointer (some ⟨p, 0, none⟩)) ∧ w.heap.size ≤ p ∧ OrAt ideal st p w' ∧ Below w.heap.size w w'

theorem four_new (w : World) (a b c d : Obj) : ((((w.alloc a).alloc b).alloc c).alloc d).heap[w.heap.size + 3]? = some d ∧ ((((w.alloc a).alloc b).alloc c).alloc d).heap[w.heap.size + 2]? = some c ∧
    ((((w.alloc a).alloc b).alloc c).alloc d).heap[w.heap.size + 1]? = some b ∧ ((((w.alloc a).alloc b).alloc c).alloc d).heap[w.heap.size]? = some a := by
  have e1 : (w.alloc a).heap.size = w.heap.size + 1 := World.size_alloc ..
  have e2 : ((w.alloc a).alloc b).heap.size = w.heap.size + 2 := by rw [World.size_alloc, e1]
  have e3 : (((w.alloc a).alloc b).alloc c).heap.size = w.heap.size + 3 := by rw [World.size_alloc, e2]
  exact ⟨e3 ▸ box_new _ d, box_old (e2 ▸ box_new _ c), box_old (box_old (e1 ▸ box_new _ b)), box_old (box_old (box_old (box_new _ a)))⟩

set_option maxHeartbeats 1000000 in
theorem newOracle_any (w : World) : Calls Tryz.prog 11 #[] w (NewOr false 0 w) := by
  have hmm := @run_makeMap Tryz.prog
  obtain ⟨q1, q2, q3, q4⟩ := four_new w (.map #[] 0) (.map #[] 0) (.map #[] 0) (.cells #[.bool false, .int .u64 0, .int .i64 0, .slice none 0 0, .map (some w.heap.size), .map (some (w.heap.size + 1)), .map (some (w.heap.size + 2))] 58)
  have Q1 := Lib.hid q1
  have Q2 := Lib.hid q2
  have Q3 := Lib.hid q3
  have Q4 := Lib.hid q4
  clear q1 q2 q3 q4
  go_enter Tryz.func11, Tryz.ntmps11
  go_wp2
  go_ret
  exact ⟨w.heap.size + 3, by simp, by omega, ⟨_, _, _, Q1.out, Q4.out, Q3.out, Q2.out⟩, bnew (bnew (bnew (bnew (Below.refl _ _) _) _) _) _⟩

theorem real_any (w : World) : Calls Tryz.prog 5 #[] w (NewOr false 0 w) := by
  go_enter Tryz.func5, Tryz.ntmps5
  go_wp2_with fail
  refine (newOracle_any w).mono ?_
  rintro e w1 ⟨p, rfl, h1, h2, h3⟩
  go_wp2
  go_ret
  exact ⟨p, rfl, h1, h2, h3⟩

theorem isIdeal_any (w : World) (p : Nat) (ideal : Bool) (st : Int) (h : OrAt ideal st p w) : Calls Tryz.prog 12 #[.pointer (some ⟨p, 0, none⟩)] w fun e w' => e = .returned (.bool ideal) ∧ w = w' := by
  obtain ⟨mk, ms, mp, q1, q2, q3, q4⟩ := h
  obtain ⟨c0, c1⟩ := box_cells q1
  have k0 := c0 0
  simp at k0
  clear c0 q1 q2 q3 q4
  go_enter Tryz.func12, Tryz.ntmps12
  go_wp2
  go_ret
  exact ⟨rfl, rfl⟩
end Go.Proofs.YthggdacincfplaaGreatDoor
