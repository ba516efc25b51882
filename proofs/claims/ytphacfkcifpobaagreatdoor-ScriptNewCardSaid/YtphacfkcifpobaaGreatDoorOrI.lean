/- Ideal oracles. -/
import Derived.Test.YtphacfkcifpobaaGreatDoorM06
set_option maxRecDepth 100000
namespace Go.Proofs.YtphacfkcifpobaaGreatDoor
open Go.ChangeShapes Go.WideShapes Go.ChangeAt Go.RowKit
set_option maxHeartbeats 1000000 in
theorem ideal_any (w : World) (st : Int) : Calls Tryz.prog 6 #[.int .u64 st] w (NewOr true st w) := by
 go_enter Tryz.func6, Tryz.ntmps6
 go_wp2_with fail
 refine (newOracle_any w).mono ?_
 rintro e w1 ⟨p, rfl, h1, ⟨mk, ms, mp, q1, q2, q3, q4⟩, h3⟩; obtain ⟨c0, c1⟩ := box_cells q1
 have hno : ∀ b, w1.heap[b]? = some (.map #[] 0) → b ≠ p := fun b hb e => by rw [e, q1] at hb; cases hb
 have N1 := Lib.hid (hno mk q2); have N2 := Lib.hid (hno ms q3); have N3 := Lib.hid (hno mp q4); have Q1 := Lib.hid q1; have Q2 := Lib.hid q2; have Q3 := Lib.hid q3; have Q4 := Lib.hid q4; clear q1 q2 q3 q4 hno
 go_wp2
 go_ret
 refine ⟨p, rfl, h1, ⟨mk, ms, mp, ?_, box_set_far (box_set_far Q2.out N1.out) N1.out, box_set_far (box_set_far Q3.out N2.out) N2.out, box_set_far (box_set_far Q4.out N3.out) N3.out⟩, (h3.setCell h1 _).setCell h1 _⟩
 exact box_set (box_set Q1.out)
end Go.Proofs.YtphacfkcifpobaaGreatDoor
