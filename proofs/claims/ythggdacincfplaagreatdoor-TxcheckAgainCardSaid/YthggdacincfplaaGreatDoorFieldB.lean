/- The field's greater functions at the big prime: mul, pow, Add, Mul, Pow. -/
import Derived.Test.YthggdacincfplaaGreatDoorDiv
namespace Go.Proofs.YthggdacincfplaaGreatDoor
open Go.ChangeShapes Go.WideShapes Go.ChangeAt Go.RowKit

theorem leftOf_mul (a b : Int) : leftOf (hiOf a b) (loOf a b) = mulP a b := by
  unfold leftOf hiOf loOf mulP
  generalize a * b = c
  omega
theorem hiOf_in {a b : Int} (a0 : 0 ≤ a) (a1 : a < 18446744069414584321) (b0 : 0 ≤ b) (b1 : b < 18446744069414584321) : 0 ≤ hiOf a b ∧ hiOf a b < 18446744069414584321 ∧ 0 ≤ loOf a b ∧ loOf a b < 18446744073709551616 := by
  have h : a * b ≤ 18446744069414584321 * 18446744069414584321 := Int.mul_le_mul (by omega) (by omega) b0 (by omega)
  have h' : 0 ≤ a * b := Int.mul_nonneg a0 b0
  unfold hiOf loOf
  generalize a * b = c at *
  omega

set_option maxHeartbeats 400000 in
theorem mul_big (a b : Int) (a0 : 0 ≤ a) (a1 : a < 18446744069414584321) (b0 : 0 ≤ b) (b1 : b < 18446744069414584321) (w : World) :
    Calls Tryz.prog 234 #[.agg #[.int .u64 18446744069414584321], .int .u64 a, .int .u64 b] w fun e w' => e = .returned (.int .u64 (mulP a b)) ∧ Below w.heap.size w w' := by
  obtain ⟨g0, g1, g2, g3⟩ := hiOf_in a0 a1 b0 b1
  have HL := Lib.hid (leftOf_mul a b)
  go_enter Tryz.func234, Tryz.ntmps234
  go_wp2_with fail
  refine (mul64_any a b a0 (by omega) b0 (by omega) _).mono ?_
  rintro e w1 ⟨rfl, rfl⟩
  go_wp2_with fail
  refine (div64_any _ _ g0 g1 g2 g3 _).mono ?_
  rintro e w1 ⟨q, rfl, hb1⟩
  rw [HL.out]
  go_wp2_with fail
  go_ret
  exact ⟨rfl, bnext (bnew (Below.refl _ _) _) hb1⟩

theorem and_one (n : Nat) (h : n < 18446744073709551616) : bits .and .u64 (n : Int) 1 = ((n % 2 : Nat) : Int) := by
  have h' := bits_and_u64_nat n 1 h (by omega)
  rw [Nat.and_one_is_mod] at h'
  exact h'

set_option maxHeartbeats 1000000 in
theorem pow_big (a : Int) (a0 : 0 ≤ a) (a1 : a < 18446744069414584321) (e : Nat) (he : e < 18446744073709551616) (w : World) :
    Calls Tryz.prog 300 #[.agg #[.int .u64 18446744069414584321], .int .u64 a, .int .u64 e] w fun x w' => x = .returned (.int .u64 (powP a e)) ∧ Below w.heap.size w w' := by
  have hb0 := bnew (Below.refl w.heap.size w) (.cells #[.int .u64 18446744069414584321] 169)
  have HB := Lib.hid (box_new w (.cells #[.int .u64 18446744069414584321] 169))
  go_enter Tryz.func300, Tryz.ntmps300
  go_wp2_with fail
  go_loopw [1, 2, 7] (fun va ve vr wr => ∃ (b r : Int) (k : Nat), va = .int .u64 b ∧ ve = .int .u64 k ∧ vr = .int .u64 r ∧ 0 ≤ b ∧ b < 18446744069414584321 ∧ 0 ≤ r ∧ r < 18446744069414584321 ∧ k < 18446744073709551616 ∧ Hid (mulP r (powP b k) = powP a e) ∧
      wr.heap[w.heap.size]? = some (.cells #[.int .u64 18446744069414584321] 169 (0, 0)) ∧ Below w.heap.size w wr) (fun _ ve _ _ => (intOf ve).toNat)
  case atStart => exact ⟨a, 1, e, rfl, rfl, rfl, a0, a1, by omega, by omega, he, powP_of a e, HB.out, hb0⟩
  case round =>
    obtain ⟨b, r, k, rfl, rfl, rfl, b0, b1, r0, r1, hk, hinv, hbox, hbr⟩ := hrel
    obtain ⟨x0, x1⟩ := box_cells hbox
    have HBX := Lib.hid hbox
    clear hbox
    by_cases hk0 : k = 0
    · subst hk0
      have HF : Hid (r = powP a e) := by show _ = _; rw [← hinv.out, mulP_one r0 r1]
      go_wp2_with fail
      go_ret
      exact ⟨ret_int HF.out, hbr⟩
    · have k1 : 0 < (k : Int) := by omega
      have k2 : 0 < k := by omega
      have hand := and_one k hk
      by_cases hodd : k % 2 = 1
      · rw [hodd] at hand
        have ho := Lib.hid (pow_odd r b k hodd)
        by_cases hhalf : k / 2 = 0
        · obtain rfl : k = 1 := by omega
          have hm := mulP_in r b
          have HN : Hid (mulP (mulP r b) (powP b 0) = powP a e) := by
            show _ = _
            rw [mulP_one hm.1 hm.2, ← hinv.out]
            unfold powP
            rw [Int.pow_one, Int.emod_eq_of_lt b0 b1]
          clear hand ho
          go_wp2_with fail
          refine (mul_big r b r0 r1 b0 b1 _).mono ?_
          rintro x w1 ⟨rfl, hb1⟩
          have hbx := box_after hb1 HBX.out
          have hbw := bnext hbr hb1
          go_wp2_with fail
          go_roundw
          case rel => exact ⟨b, mulP r b, 0, rfl, rfl, rfl, b0, b1, hm.1, hm.2, by omega, HN, hbx, hbw⟩
          case measure => simp [intOf]
        · have hm := mulP_in r b
          have hq := mulP_in b b
          have HN : Hid (mulP (mulP r b) (powP (mulP b b) (k / 2)) = powP a e) := by
            show _ = _
            rw [ho.out, hinv.out]
          have k3 : 0 < (k : Int) / 2 := by omega
          have k4 : ((k : Int) / 2).toNat < k := by omega
          go_wp2_with fail
          refine (mul_big r b r0 r1 b0 b1 _).mono ?_
          rintro x w1 ⟨rfl, hb1⟩
          clear x0 x1
          obtain ⟨x0, x1⟩ := box_cells (box_after hb1 HBX.out)
          go_wp2_with fail
          refine (mul_big b b b0 b1 b0 b1 _).mono ?_
          rintro x w2 ⟨rfl, hb2⟩
          have hbx := box_after hb2 (box_after hb1 HBX.out)
          have hbw := bnext (bnext hbr hb1) hb2
          go_wp2_with fail
          go_roundw
          case rel => exact ⟨mulP b b, mulP r b, k / 2, rfl, by rw [Int.natCast_ediv]; rfl, rfl, hq.1, hq.2, hm.1, hm.2, by omega, HN, hbx, hbw⟩
          case measure => simp [intOf]; omega
      · have hz : k % 2 = 0 := by omega
        rw [hz] at hand
        have hq := mulP_in b b
        have HN : Hid (mulP r (powP (mulP b b) (k / 2)) = powP a e) := by
          show _ = _
          rw [pow_even r b k hz, hinv.out]
        have k3 : 0 < (k : Int) / 2 := by omega
        go_wp2_with fail
        refine (mul_big b b b0 b1 b0 b1 _).mono ?_
        rintro x w2 ⟨rfl, hb2⟩
        have hbx := box_after hb2 HBX.out
        have hbw := bnext hbr hb2
        go_wp2_with fail
        go_roundw
        case rel => exact ⟨mulP b b, r, k / 2, rfl, by rw [Int.natCast_ediv]; rfl, rfl, hq.1, hq.2, r0, r1, by omega, HN, hbx, hbw⟩
        case measure => simp [intOf]; omega

/-- 'Add', 'Mul', 'Pow' reduce first; their regions draw their order. -/
def BoxP (w : World) (w' : World) : Prop := Below w.heap.size w w' ∧ w.heap.size < w'.heap.size ∧ ∀ o, w'.cell? ⟨w.heap.size, o, none⟩ = (#[.int .u64 18446744069414584321] : Array Value)[o]?
theorem BoxP.drew {w w' : World} (h : BoxP w w') : BoxP w w'.drew := ⟨h.1.drew, h.2.1, h.2.2⟩
theorem BoxP.next {w w1 w2 : World} (h : BoxP w w1) (hb : Below w1.heap.size w1 w2) : BoxP w w2 :=
  ⟨bnext h.1 hb, Nat.lt_of_lt_of_le h.2.1 hb.size, fun o => (hb.cell (p := ⟨_, o, none⟩) h.2.1).trans (h.2.2 o)⟩
theorem BoxP.of {w w' : World} (hb : Below w.heap.size w w') (hx : w'.heap[w.heap.size]? = some (.cells #[.int .u64 18446744069414584321] 169 (0, 0))) : BoxP w w' := ⟨hb, box_lt hx, (box_cells hx).1⟩

set_option maxHeartbeats 1000000 in
theorem Add_big (a b : Int) (a0 : 0 ≤ a) (b0 : 0 ≤ b) (w : World) :
    Calls Tryz.prog 153 #[.agg #[.int .u64 18446744069414584321], .int .u64 a, .int .u64 b] w fun e w' => e = .returned (.int .u64 (addP a b)) ∧ Below w.heap.size w w' := by
  have ha := redP_in a
  have hb := redP_in b
  have HR := Lib.hid (addP_red a b)
  go_enter Tryz.func153, Tryz.ntmps153
  go_wp2_with fail
  refine (valid_big _).mono ?_
  rintro e w1 ⟨rfl, hb1⟩
  have hbx := BoxP.of (bnext (bnew (Below.refl _ _) _) hb1) (box_after hb1 (box_new w _))
  obtain ⟨x0, x1⟩ := box_cells (box_after hb1 (box_new w _))
  go_wp2_with fail
  go_region_held3 (fun w' => Below w.heap.size w w' ∧ w.heap.size < w'.heap.size ∧ ∀ o, w'.cell? ⟨w.heap.size, o, none⟩ = (#[.int .u64 18446744069414584321] : Array Value)[o]?)
    (first
      | exact hbx.drew
      | (have hh := (‹Below w.heap.size w _ ∧ _ < _ ∧ _› : BoxP w _); exact BoxP.next hh hbc))
    (first
      | (go_at_call_of 218 a; refine (reduced_big a a0 _).mono ?_; rintro e w2 ⟨rfl, hbc⟩)
      | (go_at_call_of 218 b; refine (reduced_big b b0 _).mono ?_; rintro e w2 ⟨rfl, hbc⟩)
      | (go_at_call 217; refine (add_big _ _ ha.1 ha.2 hb.1 hb.2 _).mono ?_; rintro e w2 ⟨rfl, hbc⟩))
  all_goals (have hh := (‹Below w.heap.size w _ ∧ _ < _ ∧ _› : BoxP w _))
  all_goals go_wp2_with fail
  all_goals go_ret
  all_goals exact ⟨ret_int (by rw [HR.out]), hh.1⟩
set_option maxHeartbeats 1000000 in
theorem Mul_big (a b : Int) (a0 : 0 ≤ a) (b0 : 0 ≤ b) (w : World) :
    Calls Tryz.prog 168 #[.agg #[.int .u64 18446744069414584321], .int .u64 a, .int .u64 b] w fun e w' => e = .returned (.int .u64 (mulP a b)) ∧ Below w.heap.size w w' := by
  have ha := redP_in a
  have hb := redP_in b
  have HR := Lib.hid (mulP_red a b)
  go_enter Tryz.func168, Tryz.ntmps168
  go_wp2_with fail
  refine (valid_big _).mono ?_
  rintro e w1 ⟨rfl, hb1⟩
  have hbx := BoxP.of (bnext (bnew (Below.refl _ _) _) hb1) (box_after hb1 (box_new w _))
  obtain ⟨x0, x1⟩ := box_cells (box_after hb1 (box_new w _))
  go_wp2_with fail
  go_region_held3 (fun w' => Below w.heap.size w w' ∧ w.heap.size < w'.heap.size ∧ ∀ o, w'.cell? ⟨w.heap.size, o, none⟩ = (#[.int .u64 18446744069414584321] : Array Value)[o]?)
    (first
      | exact hbx.drew
      | (have hh := (‹Below w.heap.size w _ ∧ _ < _ ∧ _› : BoxP w _); exact BoxP.next hh hbc))
    (first
      | (go_at_call_of 218 a; refine (reduced_big a a0 _).mono ?_; rintro e w2 ⟨rfl, hbc⟩)
      | (go_at_call_of 218 b; refine (reduced_big b b0 _).mono ?_; rintro e w2 ⟨rfl, hbc⟩)
      | (go_at_call 234; refine (mul_big _ _ ha.1 ha.2 hb.1 hb.2 _).mono ?_; rintro e w2 ⟨rfl, hbc⟩))
  all_goals (have hh := (‹Below w.heap.size w _ ∧ _ < _ ∧ _› : BoxP w _))
  all_goals go_wp2_with fail
  all_goals go_ret
  all_goals exact ⟨ret_int (by rw [HR.out]), hh.1⟩
set_option maxHeartbeats 1000000 in
theorem Pow_big (a : Int) (a0 : 0 ≤ a) (n : Nat) (hn : n < 18446744073709551616) (w : World) :
    Calls Tryz.prog 236 #[.agg #[.int .u64 18446744069414584321], .int .u64 a, .int .u64 n] w fun e w' => e = .returned (.int .u64 (powP a n)) ∧ Below w.heap.size w w' := by
  have ha := redP_in a
  have HR := Lib.hid (powP_red a n)
  go_enter Tryz.func236, Tryz.ntmps236
  go_wp2_with fail
  refine (valid_big _).mono ?_
  rintro e w1 ⟨rfl, hb1⟩
  have hbx := BoxP.of (bnext (bnew (Below.refl _ _) _) hb1) (box_after hb1 (box_new w _))
  obtain ⟨x0, x1⟩ := box_cells (box_after hb1 (box_new w _))
  go_wp2_with fail
  go_region_held3 (fun w' => Below w.heap.size w w' ∧ w.heap.size < w'.heap.size ∧ ∀ o, w'.cell? ⟨w.heap.size, o, none⟩ = (#[.int .u64 18446744069414584321] : Array Value)[o]?)
    (first
      | exact hbx.drew
      | (have hh := (‹Below w.heap.size w _ ∧ _ < _ ∧ _› : BoxP w _); exact BoxP.next hh hbc))
    (first
      | (go_at_call 218; refine (reduced_big a a0 _).mono ?_; rintro e w2 ⟨rfl, hbc⟩)
      | (go_at_call 300; refine (pow_big _ ha.1 ha.2 n hn _).mono ?_; rintro e w2 ⟨rfl, hbc⟩))
  all_goals (have hh := (‹Below w.heap.size w _ ∧ _ < _ ∧ _› : BoxP w _))
  all_goals go_wp2_with fail
  all_goals go_ret
  all_goals exact ⟨ret_int (by rw [HR.out]), hh.1⟩
end Go.Proofs.YthggdacincfplaaGreatDoor
