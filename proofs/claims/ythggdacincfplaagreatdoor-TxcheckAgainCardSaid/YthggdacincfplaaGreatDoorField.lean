/- The field's small functions at the big prime. -/
import Derived.Test.YthggdacincfplaaGreatDoorRules
import Derived.Test.YthggdacincfplaaGreatDoorModP
import Derived.Lib.Mul64
import Derived.Laws.Bits64b
import Derived.Laws.Externs
import Derived.Shelf.Bits.Mul64
namespace Go.Proofs.YthggdacincfplaaGreatDoor
open Go.ChangeShapes Go.WideShapes Go.ChangeAt Go.RowKit

theorem valid_big (w : World) : Calls Tryz.prog 108 #[.agg #[.int .u64 18446744069414584321]] w fun e w' => e = .returned (.bool true) ∧ Below w.heap.size w w' := by
  go_enter Tryz.func108, Tryz.ntmps108
  go_wp2
  go_ret
  exact ⟨rfl, bnew (Below.refl _ _) _⟩
theorem numbers_big (w : World) : Calls Tryz.prog 290 #[.agg #[.int .u64 18446744069414584321]] w fun e w' => e = .returned (.tuple #[.int .u64 7, .int .i64 32, .int .u64 7]) ∧ Below w.heap.size w w' := by
  go_enter Tryz.func290, Tryz.ntmps290
  go_wp2
  go_ret3
  exact ⟨rfl, bnew (Below.refl _ _) _⟩
theorem exponent_big (w : World) : Calls Tryz.prog 235 #[.agg #[.int .u64 18446744069414584321]] w fun e w' => e = .returned (.int .u64 7) ∧ Below w.heap.size w w' := by
  go_enter Tryz.func235, Tryz.ntmps235
  go_wp2_with fail
  refine (numbers_big _).mono ?_
  rintro e w1 ⟨rfl, hb⟩
  go_wp2
  go_ret
  exact ⟨rfl, bnext (bnew (Below.refl _ _) _) hb⟩

theorem reduced_big (n : Int) (h0 : 0 ≤ n) (w : World) : Calls Tryz.prog 218 #[.agg #[.int .u64 18446744069414584321], .int .u64 n] w fun e w' => e = .returned (.int .u64 (redP n)) ∧ Below w.heap.size w w' := by
  by_cases h : n < 18446744069414584321
  · go_enter Tryz.func218, Tryz.ntmps218
    go_wp2
    go_ret
    exact ⟨ret_int (redP_small h0 h).symm, bnew (Below.refl _ _) _⟩
  · go_enter Tryz.func218, Tryz.ntmps218
    go_wp2
    go_ret
    exact ⟨ret_int (by unfold redP; rfl), bnew (Below.refl _ _) _⟩

theorem add64_eq (x y s c : Int) (hx : 0 ≤ x) (hy : 0 ≤ y) (hs : (x + y) % 18446744073709551616 = s) (hc : (x + y) / 18446744073709551616 = c) (w : World) :
    (callFunc 291 #[.int .u64 x, .int .u64 y, .int .u64 0]).run Tryz.prog w = .ok (.value (.tuple #[.int .u64 s, .int .u64 c])) w := by
  rw [run_callFunc_extern Tryz.func291 (by kernel_rfl) (by kernel_rfl) (by kernel_rfl) (e := add64Entry) (by kernel_rfl), run_add64 x y 0 hx hy (by omega) (by omega), Int.add_zero, hs, hc]
  rfl

set_option maxHeartbeats 400000 in
theorem add_big (a b : Int) (a0 : 0 ≤ a) (a1 : a < 18446744069414584321) (b0 : 0 ≤ b) (b1 : b < 18446744069414584321) (w : World) :
    Calls Tryz.prog 217 #[.agg #[.int .u64 18446744069414584321], .int .u64 a, .int .u64 b] w fun e w' => e = .returned (.int .u64 (addP a b)) ∧ Below w.heap.size w w' := by
  by_cases h1 : a + b < 18446744069414584321
  · have hd := add64_eq a b (a + b) 0 a0 b0 (by omega) (by omega)
    have HR : Hid (addP a b = a + b) := by show _ = _; unfold addP; omega
    go_enter Tryz.func217, Tryz.ntmps217
    go_wp2
    go_ret
    exact ⟨ret_int (by rw [HR.out]), bnew (Below.refl _ _) _⟩
  · by_cases h2 : a + b < 18446744073709551616
    · have hd := add64_eq a b (a + b) 0 a0 b0 (by omega) (by omega)
      have HR : Hid (addP a b = a + b - 18446744069414584321) := by show _ = _; unfold addP; omega
      go_enter Tryz.func217, Tryz.ntmps217
      go_wp2
      go_ret
      exact ⟨ret_int (by rw [HR.out]), bnew (Below.refl _ _) _⟩
    · have hd := add64_eq a b (a + b - 18446744073709551616) 1 a0 b0 (by omega) (by omega)
      have HR : Hid (addP a b = IntKind.u64.wrap (a + b - 18446744073709551616 - 18446744069414584321)) := by
        show _ = _; unfold addP; rw [IntKind.wrap_u64]; omega
      go_enter Tryz.func217, Tryz.ntmps217
      go_wp2
      go_ret
      exact ⟨ret_int (by rw [HR.out]), bnew (Below.refl _ _) _⟩

def hiOf (x y : Int) : Int := x * y / 18446744073709551616
def loOf (x y : Int) : Int := x * y % 18446744073709551616
set_option maxHeartbeats 1000000 in
theorem mul64_nat (x y : Nat) (hx : x < 18446744073709551616) (hy : y < 18446744073709551616) (w : World) :
    Calls Tryz.prog 298 #[.int .u64 x, .int .u64 y] w fun e w' => e = .returned (.tuple #[.int .u64 ((x * y / 18446744073709551616 : Nat) : Int), .int .u64 ((x * y % 18446744073709551616 : Nat) : Int)]) ∧ w' = w := by
  obtain ⟨bd, bt, bw, hhi⟩ := Lib.mul64_hi x y hx hy
  have ba := Lib.half_mul_le (a := x / 4294967296) (b := y / 4294967296) (by omega) (by omega)
  have bb := Lib.half_mul_le (a := x / 4294967296) (b := y % 4294967296) (by omega) (by omega)
  have bc := Lib.half_mul_le (a := x % 4294967296) (b := y / 4294967296) (by omega) (by omega)
  have ba' : x / 4294967296 * (y / 4294967296) < 18446744073709551616 := by omega
  have bb' : x / 4294967296 * (y % 4294967296) < 18446744073709551616 := by omega
  have bc' : x % 4294967296 * (y / 4294967296) < 18446744073709551616 := by omega
  have bh1 : x / 4294967296 * (y / 4294967296) + (x / 4294967296 * (y % 4294967296) + x % 4294967296 * (y % 4294967296) / 4294967296) / 4294967296 < 18446744073709551616 := by omega
  have bh : x / 4294967296 * (y / 4294967296) + (x / 4294967296 * (y % 4294967296) + x % 4294967296 * (y % 4294967296) / 4294967296) / 4294967296 + ((x / 4294967296 * (y % 4294967296) + x % 4294967296 * (y % 4294967296) / 4294967296) % 4294967296 + x % 4294967296 * (y / 4294967296)) / 4294967296 < 18446744073709551616 := by omega
  go_enter Tryz.func298, Tryz.ntmps298
  go_wp2
  simp only [Mul64.maskN x hx, Mul64.maskN y hy, Mul64.divN, Mul64.mulN, Mul64.addN, Mul64.wrapN _ bd, Mul64.wrapN _ bb', Mul64.wrapN _ bt, Mul64.maskN _ bt, Mul64.wrapN _ bc', Mul64.wrapN _ bw, Mul64.wrapN _ ba', Mul64.wrapN _ bh1, Mul64.wrapN _ bh, Mul64.wrapM (x * y)]
  rw [hhi]
  go_ret2
  exact ⟨rfl, rfl⟩
theorem mul64_any (x y : Int) (x0 : 0 ≤ x) (x1 : x < 18446744073709551616) (y0 : 0 ≤ y) (y1 : y < 18446744073709551616) (w : World) :
    Calls Tryz.prog 298 #[.int .u64 x, .int .u64 y] w fun e w' => e = .returned (.tuple #[.int .u64 (hiOf x y), .int .u64 (loOf x y)]) ∧ w = w' := by
  obtain ⟨x, rfl⟩ := Int.eq_ofNat_of_zero_le x0
  obtain ⟨y, rfl⟩ := Int.eq_ofNat_of_zero_le y0
  refine (mul64_nat x y (by omega) (by omega) w).mono ?_
  rintro e w' ⟨rfl, rfl⟩
  refine ⟨?_, rfl⟩
  unfold hiOf loOf
  rw [Int.natCast_ediv, Int.natCast_emod, Int.natCast_mul]
  rfl
end Go.Proofs.YthggdacincfplaaGreatDoor
