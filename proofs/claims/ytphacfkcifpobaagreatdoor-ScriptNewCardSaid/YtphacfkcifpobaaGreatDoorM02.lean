/- Arithmetic modulo the big prime, and long division by it, in plain numbers. Nothing of the program is named here. -/
import Derived.Test.YtphacfkcifpobaaGreatDoorM01
import Derived.Lib.Mul64
import Derived.Laws.Bits64b
import Derived.Laws.Externs
import Derived.Shelf.Bits.Mul64
set_option maxRecDepth 100000
namespace Go.Proofs.YtphacfkcifpobaaGreatDoor
def addP (a b : Int) : Int := (a + b) % 18446744069414584321
def mulP (a b : Int) : Int := a * b % 18446744069414584321
def redP (a : Int) : Int := a % 18446744069414584321
def powP (a : Int) (e : Nat) : Int := a ^ e % 18446744069414584321
theorem addP_in (a b : Int) : 0 ≤ addP a b ∧ addP a b < 18446744069414584321 := by unfold addP; omega
theorem mulP_in (a b : Int) : 0 ≤ mulP a b ∧ mulP a b < 18446744069414584321 := by
 unfold mulP; generalize a * b = c; omega
theorem redP_in (a : Int) : 0 ≤ redP a ∧ redP a < 18446744069414584321 := by unfold redP; omega
theorem powP_in (a : Int) (e : Nat) : 0 ≤ powP a e ∧ powP a e < 18446744069414584321 := by
 unfold powP; generalize a ^ e = c; omega
theorem redP_small {a : Int} (h0 : 0 ≤ a) (h1 : a < 18446744069414584321) : redP a = a := by unfold redP; omega
theorem addP_red (a b : Int) : addP (redP a) (redP b) = addP a b := by unfold addP redP; omega
theorem mulP_red (a b : Int) : mulP (redP a) (redP b) = mulP a b := by unfold mulP redP; exact (Int.mul_emod a b _).symm
theorem pow_emod (a n : Int) : ∀ e : Nat, (a % n) ^ e % n = a ^ e % n
 | 0 => by rw [Int.pow_zero, Int.pow_zero]
 | e + 1 => by
   rw [Int.pow_succ, Int.pow_succ, Int.mul_emod, pow_emod a n e, Int.emod_emod, ← Int.mul_emod]
theorem powP_red (a : Int) (e : Nat) : powP (redP a) e = powP a e := by unfold powP redP; exact pow_emod a _ e
theorem pow_odd (r b : Int) (k : Nat) (hk : k % 2 = 1) : mulP (mulP r b) (powP (mulP b b) (k / 2)) = mulP r (powP b k) := by
 unfold mulP powP; rw [pow_emod, ← Int.mul_emod, Int.mul_emod r, Int.emod_emod, ← Int.mul_emod]
 have e : (b * b) ^ (k / 2) = b ^ (2 * (k / 2)) := by rw [Int.pow_mul]; congr 1; exact (Int.pow_succ b 1).symm ▸ by rw [Int.pow_one]
 have e2 : b ^ k = b ^ (2 * (k / 2)) * b := by rw [← Int.pow_succ]; congr 1; omega
 rw [e, e2, Int.mul_comm (b ^ _) b, ← Int.mul_assoc]
theorem pow_even (r b : Int) (k : Nat) (hk : k % 2 = 0) : mulP r (powP (mulP b b) (k / 2)) = mulP r (powP b k) := by
 unfold mulP powP; rw [pow_emod]
 have e : (b * b) ^ (k / 2) = b ^ (2 * (k / 2)) := by rw [Int.pow_mul]; congr 1; exact (Int.pow_succ b 1).symm ▸ by rw [Int.pow_one]
 rw [e, show 2 * (k / 2) = k by omega]
theorem mulP_one {r : Int} (h0 : 0 ≤ r) (h1 : r < 18446744069414584321) (b : Int) : mulP r (powP b 0) = r := by
 unfold mulP powP; rw [Int.pow_zero]; omega
theorem powP_of (a : Int) (e : Nat) : mulP 1 (powP a e) = powP a e := by
 have := powP_in a e
 unfold mulP; omega
def Guess (hi un q r : Int) : Prop :=
 hi = q * 4294967295 + r ∧ 0 ≤ q ∧ ((0 ≤ r ∧ r < 4294967295 ∧ q ≤ 4294967296) ∨ (r = 4294967295 ∧ q ≤ 4294967295 ∧ un ≤ q))
theorem Guess.start {hi un : Int} (h0 : 0 ≤ hi) (h1 : hi < 18446744069414584321) : Guess hi un (hi / 4294967295) (hi - hi / 4294967295 * 4294967295) := by
 unfold Guess; omega
theorem Guess.next {hi un q r : Int} (h : Guess hi un q r) (h1 : hi < 18446744069414584321) (hu : 0 ≤ un) (hu1 : un < 4294967296) (hc : 4294967296 ≤ q ∨ 4294967296 * r + un < q) : Guess hi un (q - 1) (r + 4294967295) ∧ r + 4294967295 < 4294967296 ∧ 1 ≤ q ∧ r = 0 := by
 unfold Guess at *; omega
theorem Guess.done {hi un q r : Int} (h : Guess hi un q r) (hu : 0 ≤ un) (hu1 : un < 4294967296) (h1 : q < 4294967296) (h2 : q ≤ 4294967296 * r + un) :
   (hi * 4294967296 + un) - q * 18446744069414584321 = 4294967296 * r + un - q ∧ 0 ≤ 4294967296 * r + un - q ∧ 4294967296 * r + un - q < 18446744069414584321 := by
 unfold Guess at h; omega
theorem Guess.bounds {hi un q r : Int} (h : Guess hi un q r) : 0 ≤ q ∧ q ≤ 4294967296 ∧ 0 ≤ r ∧ r ≤ 4294967295 := by
 unfold Guess at h; omega
end Go.Proofs.YtphacfkcifpobaaGreatDoor
/- The field's small functions at the big prime. -/
namespace Go.Proofs.YtphacfkcifpobaaGreatDoor
open Go.ChangeShapes Go.WideShapes Go.ChangeAt Go.RowKit
theorem valid_big (w : World) : Calls Tryz.prog 42 #[.agg #[.int .u64 18446744069414584321]] w fun e w' => e = .returned (.bool true) ∧ Below w.heap.size w w' := by
 go_enter Tryz.func42, Tryz.ntmps42
 go_wp2
 go_ret
 exact ⟨rfl, bnew (Below.refl _ _) _⟩
theorem numbers_big (w : World) : Calls Tryz.prog 171 #[.agg #[.int .u64 18446744069414584321]] w fun e w' => e = .returned (.tuple #[.int .u64 7, .int .i64 32, .int .u64 7]) ∧ Below w.heap.size w w' := by
 go_enter Tryz.func171, Tryz.ntmps171
 go_wp2
 go_ret3
 exact ⟨rfl, bnew (Below.refl _ _) _⟩
theorem exponent_big (w : World) : Calls Tryz.prog 117 #[.agg #[.int .u64 18446744069414584321]] w fun e w' => e = .returned (.int .u64 7) ∧ Below w.heap.size w w' := by
 go_enter Tryz.func117, Tryz.ntmps117
 go_wp2_with fail
 refine (numbers_big _).mono ?_
 rintro e w1 ⟨rfl, hb⟩
 go_wp2
 go_ret
 exact ⟨rfl, bnext (bnew (Below.refl _ _) _) hb⟩
theorem reduced_big (n : Int) (h0 : 0 ≤ n) (w : World) : Calls Tryz.prog 115 #[.agg #[.int .u64 18446744069414584321], .int .u64 n] w fun e w' => e = .returned (.int .u64 (redP n)) ∧ Below w.heap.size w w' := by
 by_cases h : n < 18446744069414584321
 · go_enter Tryz.func115, Tryz.ntmps115
   go_wp2
   go_ret
   exact ⟨ret_int (redP_small h0 h).symm, bnew (Below.refl _ _) _⟩
 · go_enter Tryz.func115, Tryz.ntmps115
   go_wp2
   go_ret
   exact ⟨ret_int (by unfold redP; rfl), bnew (Below.refl _ _) _⟩
theorem add64_eq (x y s c : Int) (hx : 0 ≤ x) (hy : 0 ≤ y) (hs : (x + y) % 18446744073709551616 = s) (hc : (x + y) / 18446744073709551616 = c) (w : World) :
   (callFunc 168 #[.int .u64 x, .int .u64 y, .int .u64 0]).run Tryz.prog w = .ok (.value (.tuple #[.int .u64 s, .int .u64 c])) w := by
 rw [run_callFunc_extern Tryz.func168 (by kernel_rfl) (by kernel_rfl) (by kernel_rfl) (e := add64Entry) (by kernel_rfl), run_add64 x y 0 hx hy (by omega) (by omega), Int.add_zero, hs, hc]
 rfl
set_option maxHeartbeats 400000 in
theorem add_big (a b : Int) (a0 : 0 ≤ a) (a1 : a < 18446744069414584321) (b0 : 0 ≤ b) (b1 : b < 18446744069414584321) (w : World) :
   Calls Tryz.prog 114 #[.agg #[.int .u64 18446744069414584321], .int .u64 a, .int .u64 b] w fun e w' => e = .returned (.int .u64 (addP a b)) ∧ Below w.heap.size w w' := by
 by_cases h1 : a + b < 18446744069414584321
 · have hd := add64_eq a b (a + b) 0 a0 b0 (by omega) (by omega)
   have HR : Hid (addP a b = a + b) := by show _ = _; unfold addP; omega
   go_enter Tryz.func114, Tryz.ntmps114
   go_wp2
   go_ret
   exact ⟨ret_int (by rw [HR.out]), bnew (Below.refl _ _) _⟩
 · by_cases h2 : a + b < 18446744073709551616
   · have hd := add64_eq a b (a + b) 0 a0 b0 (by omega) (by omega)
     have HR : Hid (addP a b = a + b - 18446744069414584321) := by show _ = _; unfold addP; omega
     go_enter Tryz.func114, Tryz.ntmps114
     go_wp2
     go_ret
     exact ⟨ret_int (by rw [HR.out]), bnew (Below.refl _ _) _⟩
   · have hd := add64_eq a b (a + b - 18446744073709551616) 1 a0 b0 (by omega) (by omega)
     have HR : Hid (addP a b = IntKind.u64.wrap (a + b - 18446744073709551616 - 18446744069414584321)) := by
       show _ = _; unfold addP; rw [IntKind.wrap_u64]; omega
     go_enter Tryz.func114, Tryz.ntmps114
     go_wp2
     go_ret
     exact ⟨ret_int (by rw [HR.out]), bnew (Below.refl _ _) _⟩
def hiOf (x y : Int) : Int := x * y / 18446744073709551616
def loOf (x y : Int) : Int := x * y % 18446744073709551616
set_option maxHeartbeats 1000000 in
theorem mul64_nat (x y : Nat) (hx : x < 18446744073709551616) (hy : y < 18446744073709551616) (w : World) :
   Calls Tryz.prog 169 #[.int .u64 x, .int .u64 y] w fun e w' => e = .returned (.tuple #[.int .u64 ((x * y / 18446744073709551616 : Nat) : Int), .int .u64 ((x * y % 18446744073709551616 : Nat) : Int)]) ∧ w' = w := by
 obtain ⟨bd, bt, bw, hhi⟩ := Lib.mul64_hi x y hx hy
 have ba := Lib.half_mul_le (a := x / 4294967296) (b := y / 4294967296) (by omega) (by omega)
 have bb := Lib.half_mul_le (a := x / 4294967296) (b := y % 4294967296) (by omega) (by omega)
 have bc := Lib.half_mul_le (a := x % 4294967296) (b := y / 4294967296) (by omega) (by omega)
 have ba' : x / 4294967296 * (y / 4294967296) < 18446744073709551616 := by omega
 have bb' : x / 4294967296 * (y % 4294967296) < 18446744073709551616 := by omega
 have bc' : x % 4294967296 * (y / 4294967296) < 18446744073709551616 := by omega
 have bh1 : x / 4294967296 * (y / 4294967296) + (x / 4294967296 * (y % 4294967296) + x % 4294967296 * (y % 4294967296) / 4294967296) / 4294967296 < 18446744073709551616 := by omega
 have bh : x / 4294967296 * (y / 4294967296) + (x / 4294967296 * (y % 4294967296) + x % 4294967296 * (y % 4294967296) / 4294967296) / 4294967296 + ((x / 4294967296 * (y % 4294967296) + x % 4294967296 * (y % 4294967296) / 4294967296) % 4294967296 + x % 4294967296 * (y / 4294967296)) / 4294967296 < 18446744073709551616 := by omega
 go_enter Tryz.func169, Tryz.ntmps169
 go_wp2
 simp only [Mul64.maskN x hx, Mul64.maskN y hy, Mul64.divN, Mul64.mulN, Mul64.addN, Mul64.wrapN _ bd, Mul64.wrapN _ bb', Mul64.wrapN _ bt, Mul64.maskN _ bt, Mul64.wrapN _ bc', Mul64.wrapN _ bw, Mul64.wrapN _ ba', Mul64.wrapN _ bh1, Mul64.wrapN _ bh, Mul64.wrapM (x * y)]
 rw [hhi]; go_ret2
 exact ⟨rfl, rfl⟩
theorem mul64_any (x y : Int) (x0 : 0 ≤ x) (x1 : x < 18446744073709551616) (y0 : 0 ≤ y) (y1 : y < 18446744073709551616) (w : World) :
   Calls Tryz.prog 169 #[.int .u64 x, .int .u64 y] w fun e w' => e = .returned (.tuple #[.int .u64 (hiOf x y), .int .u64 (loOf x y)]) ∧ w = w' := by
 obtain ⟨x, rfl⟩ := Int.eq_ofNat_of_zero_le x0; obtain ⟨y, rfl⟩ := Int.eq_ofNat_of_zero_le y0
 refine (mul64_nat x y (by omega) (by omega) w).mono ?_
 rintro e w' ⟨rfl, rfl⟩
 refine ⟨?_, rfl⟩
 unfold hiOf loOf; rw [Int.natCast_ediv, Int.natCast_emod, Int.natCast_mul]
 rfl
end Go.Proofs.YtphacfkcifpobaaGreatDoor
/- Division of two words by the big prime, and multiplication modulo it. -/
namespace Go.Proofs.YtphacfkcifpobaaGreatDoor
open Go.ChangeShapes Go.WideShapes Go.ChangeAt Go.RowKit
theorem len64_big (w : World) : Calls Tryz.prog 249 #[.int .u64 18446744069414584321] w fun e w' => e = .returned (.int .i64 64) ∧ w = w' := by
 go_enter Tryz.func249, Tryz.ntmps249
 go_wp2
 go_ret
 exact ⟨by kernel_rfl, rfl⟩
theorem lz64_big (w : World) : Calls Tryz.prog 244 #[.int .u64 18446744069414584321] w fun e w' => e = .returned (.int .i64 0) ∧ w = w' := by
 go_enter Tryz.func244, Tryz.ntmps244
 go_wp2_with fail
 refine (len64_big _).mono ?_
 rintro e w1 ⟨rfl, rfl⟩
 go_wp2
 go_ret
 exact ⟨rfl, rfl⟩
theorem and_big : bits .and .u64 18446744069414584321 4294967295 = 1 := by decide +kernel
theorem or_zero (a : Int) (h0 : 0 ≤ a) (h1 : a < 18446744073709551616) : bits .or .u64 a 0 = a := by
 obtain ⟨n, rfl⟩ := Int.eq_ofNat_of_zero_le h0
 have h := bits_or_u64_nat n 0 (by omega) (by omega)
 simpa using h
theorem and_mask (a : Int) (h0 : 0 ≤ a) (h1 : a < 18446744073709551616) : bits .and .u64 a 4294967295 = a % 4294967296 := by
 obtain ⟨n, rfl⟩ := Int.eq_ofNat_of_zero_le h0
 have h := Mul64.maskN n (by omega)
 rw [h]; omega
def leftOf (hi lo : Int) : Int := (hi * 18446744073709551616 + lo) % 18446744069414584321
def DivRet (hi lo : Int) (w : World) (e : Ending) (w' : World) : Prop := ∃ q, e = .returned (.tuple #[.int .u64 q, .int .u64 (leftOf hi lo)]) ∧ Below w.heap.size w w'
set_option maxHeartbeats 2000000 in
theorem div64_any (hi lo : Int) (h0 : 0 ≤ hi) (h1 : hi < 18446744069414584321) (l0 : 0 ≤ lo) (l1 : lo < 18446744073709551616) (w : World) :
   Calls Tryz.prog 170 #[.int .u64 hi, .int .u64 lo, .int .u64 18446744069414584321] w (DivRet hi lo w) := by
 by_cases hz : hi = 0
 · subst hz
   go_enter Tryz.func170, Tryz.ntmps170
   go_wp2_with fail
   go_quiet (fail)
   go_wp2_with fail; go_ret2
   exact ⟨_, by unfold leftOf; simp; rfl, by repeat (first | exact Below.refl _ _ | refine bdrewN ?_ _)⟩
 · have hz2 : (hi == 0) = false := by simpa using hz
   have hpos : 0 < hi := by omega
   clear hz; have eA := and_big
   have eB : lo / 18446744073709551616 = 0 := by omega
   have eC := or_zero hi h0 (by omega)
   have eD := and_mask lo l0 l1
   go_enter Tryz.func170, Tryz.ntmps170
   go_wp2_with fail
   refine (lz64_big _).mono ?_
   rintro e w1 ⟨rfl, rfl⟩; go_wp2_with fail; clear eA eB eC; obtain ⟨u, hu⟩ : ∃ u : Int, lo / 4294967296 = u := ⟨_, rfl⟩; obtain ⟨v, hv⟩ : ∃ v : Int, lo % 4294967296 = v := ⟨_, rfl⟩
   have u0 : 0 ≤ u := by omega
   have u1 : u < 4294967296 := by omega
   have v0 : 0 ≤ v := by omega
   have v1 : v < 4294967296 := by omega
   have HLO : Hid (lo = u * 4294967296 + v) := by show _ = _; omega
   rw [hu, hv]; clear hu hv eD
   go_loop [15, 16] (fun q r => ∃ a b : Int, q = .int .u64 a ∧ r = .int .u64 b ∧ Guess hi u a b) (fun q _ => (intOf q).toNat)
   case atStart => exact ⟨_, _, rfl, rfl, Guess.start h0 h1⟩
   case round =>
     obtain ⟨a, b, rfl, rfl, hg⟩ := hrel; have HG := Lib.hid hg; obtain ⟨a0, a1, b0, b1⟩ := hg.bounds; clear hg
     by_cases c1 : 4294967296 ≤ a
     · obtain ⟨n1, n2, n3, n4⟩ := HG.out.next h1 u0 u1 (.inl c1)
       subst n4; go_wp2_with fail
       go_round
       case rel => exact ⟨a - 1, 0 + 4294967295, rfl, rfl, n1⟩
       case measure => simp [intOf]; omega
     · by_cases c2 : 4294967296 * b + u < a
       · obtain ⟨n1, n2, n3, n4⟩ := HG.out.next h1 u0 u1 (.inr c2)
         subst n4; go_wp2_with fail
         go_round
         case rel => exact ⟨a - 1, 0 + 4294967295, rfl, rfl, n1⟩
         case measure => simp [intOf]; omega
       · obtain ⟨d1, d2, d3⟩ := HG.out.done u0 u1 (by omega) (by omega)
         obtain ⟨U, hU⟩ : ∃ U : Int, 4294967296 * b + u - a = U := ⟨_, rfl⟩
         have HD : Hid (hi * 4294967296 + u = a * 18446744069414584321 + U) := by show _ = _; omega
         have eU : IntKind.u64.wrap (IntKind.u64.wrap (IntKind.u64.wrap (hi * 4294967296) + u) - IntKind.u64.wrap (a * 18446744069414584321)) = U := by
           rw [IntKind.wrap_u64, IntKind.wrap_u64, IntKind.wrap_u64, IntKind.wrap_u64]; omega
         have U0 : 0 ≤ U := by omega
         have U1 : U < 18446744069414584321 := by omega
         clear d1 d2 d3 hU HG; go_wp2_with fail; clear eU
         go_loop [18, 16] (fun q r => ∃ c d : Int, q = .int .u64 c ∧ r = .int .u64 d ∧ Guess U v c d) (fun q _ => (intOf q).toNat)
         case atStart => exact ⟨_, _, rfl, rfl, Guess.start U0 U1⟩
         case round =>
           obtain ⟨c, d, rfl, rfl, hg⟩ := hrel; have HG := Lib.hid hg; obtain ⟨k0, k1, k2, k3⟩ := hg.bounds; clear hg
           by_cases c3 : 4294967296 ≤ c
           · obtain ⟨n1, n2, n3, n4⟩ := HG.out.next U1 v0 v1 (.inl c3)
             subst n4; go_wp2_with fail
             go_round
             case rel => exact ⟨c - 1, 0 + 4294967295, rfl, rfl, n1⟩
             case measure => simp [intOf]; omega
           · by_cases c4 : 4294967296 * d + v < c
             · obtain ⟨n1, n2, n3, n4⟩ := HG.out.next U1 v0 v1 (.inr c4)
               subst n4; go_wp2_with fail
               go_round
               case rel => exact ⟨c - 1, 0 + 4294967295, rfl, rfl, n1⟩
               case measure => simp [intOf]; omega
             · obtain ⟨d1, d2, d3⟩ := HG.out.done v0 v1 (by omega) (by omega)
               obtain ⟨V, hV⟩ : ∃ V : Int, 4294967296 * d + v - c = V := ⟨_, rfl⟩
               have eV : IntKind.u64.wrap (IntKind.u64.wrap (IntKind.u64.wrap (U * 4294967296) + v) - IntKind.u64.wrap (c * 18446744069414584321)) = V := by
                 rw [IntKind.wrap_u64, IntKind.wrap_u64, IntKind.wrap_u64, IntKind.wrap_u64]; omega
               have HE : Hid (V = leftOf hi lo) := by
                 show _ = _
                 have h1' := HD.out; have h2' := HLO.out; unfold leftOf
                 omega
               have V0 : 0 ≤ V := by omega
               have V1 : V < 18446744073709551616 := by omega
               clear d1 d2 d3 hV HG; go_wp2_with fail; go_ret2
               exact ⟨_, by rw [← HE.out]; rfl, Below.refl _ _⟩
end Go.Proofs.YtphacfkcifpobaaGreatDoor
/- The field's greater functions at the big prime: mul, pow, Add, Mul, Pow. -/
namespace Go.Proofs.YtphacfkcifpobaaGreatDoor
open Go.ChangeShapes Go.WideShapes Go.ChangeAt Go.RowKit
theorem leftOf_mul (a b : Int) : leftOf (hiOf a b) (loOf a b) = mulP a b := by
 unfold leftOf hiOf loOf mulP; generalize a * b = c
 omega
theorem hiOf_in {a b : Int} (a0 : 0 ≤ a) (a1 : a < 18446744069414584321) (b0 : 0 ≤ b) (b1 : b < 18446744069414584321) : 0 ≤ hiOf a b ∧ hiOf a b < 18446744069414584321 ∧ 0 ≤ loOf a b ∧ loOf a b < 18446744073709551616 := by
 have h : a * b ≤ 18446744069414584321 * 18446744069414584321 := Int.mul_le_mul (by omega) (by omega) b0 (by omega)
 have h' : 0 ≤ a * b := Int.mul_nonneg a0 b0; unfold hiOf loOf; generalize a * b = c at *
 omega
set_option maxHeartbeats 400000 in
theorem mul_big (a b : Int) (a0 : 0 ≤ a) (a1 : a < 18446744069414584321) (b0 : 0 ≤ b) (b1 : b < 18446744069414584321) (w : World) :
   Calls Tryz.prog 116 #[.agg #[.int .u64 18446744069414584321], .int .u64 a, .int .u64 b] w fun e w' => e = .returned (.int .u64 (mulP a b)) ∧ Below w.heap.size w w' := by
 obtain ⟨g0, g1, g2, g3⟩ := hiOf_in a0 a1 b0 b1; have HL := Lib.hid (leftOf_mul a b)
 go_enter Tryz.func116, Tryz.ntmps116
 go_wp2_with fail
 refine (mul64_any a b a0 (by omega) b0 (by omega) _).mono ?_
 rintro e w1 ⟨rfl, rfl⟩; go_wp2_with fail
 refine (div64_any _ _ g0 g1 g2 g3 _).mono ?_
 rintro e w1 ⟨q, rfl, hb1⟩; rw [HL.out]; go_wp2_with fail; go_ret
 exact ⟨rfl, bnext (bnew (Below.refl _ _) _) hb1⟩
theorem and_one (n : Nat) (h : n < 18446744073709551616) : bits .and .u64 (n : Int) 1 = ((n % 2 : Nat) : Int) := by
 have h' := bits_and_u64_nat n 1 h (by omega)
 rw [Nat.and_one_is_mod] at h'
 exact h'
set_option maxHeartbeats 1000000 in
theorem pow_big (a : Int) (a0 : 0 ≤ a) (a1 : a < 18446744069414584321) (e : Nat) (he : e < 18446744073709551616) (w : World) :
   Calls Tryz.prog 172 #[.agg #[.int .u64 18446744069414584321], .int .u64 a, .int .u64 e] w fun x w' => x = .returned (.int .u64 (powP a e)) ∧ Below w.heap.size w w' := by
 have hb0 := bnew (Below.refl w.heap.size w) (.cells #[.int .u64 18446744069414584321] 117); have HB := Lib.hid (box_new w (.cells #[.int .u64 18446744069414584321] 117))
 go_enter Tryz.func172, Tryz.ntmps172
 go_wp2_with fail
 go_loopw [1, 2, 7] (fun va ve vr wr => ∃ (b r : Int) (k : Nat), va = .int .u64 b ∧ ve = .int .u64 k ∧ vr = .int .u64 r ∧ 0 ≤ b ∧ b < 18446744069414584321 ∧ 0 ≤ r ∧ r < 18446744069414584321 ∧ k < 18446744073709551616 ∧ Hid (mulP r (powP b k) = powP a e) ∧
     wr.heap[w.heap.size]? = some (.cells #[.int .u64 18446744069414584321] 117 (0, 0)) ∧ Below w.heap.size w wr) (fun _ ve _ _ => (intOf ve).toNat)
 case atStart => exact ⟨a, 1, e, rfl, rfl, rfl, a0, a1, by omega, by omega, he, powP_of a e, HB.out, hb0⟩
 case round =>
   obtain ⟨b, r, k, rfl, rfl, rfl, b0, b1, r0, r1, hk, hinv, hbox, hbr⟩ := hrel; obtain ⟨x0, x1⟩ := box_cells hbox; have HBX := Lib.hid hbox; clear hbox
   by_cases hk0 : k = 0
   · subst hk0
     have HF : Hid (r = powP a e) := by show _ = _; rw [← hinv.out, mulP_one r0 r1]
     go_wp2_with fail; go_ret
     exact ⟨ret_int HF.out, hbr⟩
   · have k1 : 0 < (k : Int) := by omega
     have k2 : 0 < k := by omega
     have hand := and_one k hk
     by_cases hodd : k % 2 = 1
     · rw [hodd] at hand
       have ho := Lib.hid (pow_odd r b k hodd)
       by_cases hhalf : k / 2 = 0
       · obtain rfl : k = 1 := by omega
         have hm := mulP_in r b
         have HN : Hid (mulP (mulP r b) (powP b 0) = powP a e) := by
           show _ = _
           rw [mulP_one hm.1 hm.2, ← hinv.out]; unfold powP; rw [Int.pow_one, Int.emod_eq_of_lt b0 b1]
         clear hand ho; go_wp2_with fail
         refine (mul_big r b r0 r1 b0 b1 _).mono ?_
         rintro x w1 ⟨rfl, hb1⟩; have hbx := box_after hb1 HBX.out; have hbw := bnext hbr hb1; go_wp2_with fail
         go_roundw
         case rel => exact ⟨b, mulP r b, 0, rfl, rfl, rfl, b0, b1, hm.1, hm.2, by omega, HN, hbx, hbw⟩
         case measure => simp [intOf]
       · have hm := mulP_in r b
         have hq := mulP_in b b
         have HN : Hid (mulP (mulP r b) (powP (mulP b b) (k / 2)) = powP a e) := by
           show _ = _
           rw [ho.out, hinv.out]
         have k3 : 0 < (k : Int) / 2 := by omega
         have k4 : ((k : Int) / 2).toNat < k := by omega
         go_wp2_with fail
         refine (mul_big r b r0 r1 b0 b1 _).mono ?_
         rintro x w1 ⟨rfl, hb1⟩; clear x0 x1; obtain ⟨x0, x1⟩ := box_cells (box_after hb1 HBX.out); go_wp2_with fail
         refine (mul_big b b b0 b1 b0 b1 _).mono ?_
         rintro x w2 ⟨rfl, hb2⟩; have hbx := box_after hb2 (box_after hb1 HBX.out); have hbw := bnext (bnext hbr hb1) hb2; go_wp2_with fail
         go_roundw
         case rel => exact ⟨mulP b b, mulP r b, k / 2, rfl, by rw [Int.natCast_ediv]; rfl, rfl, hq.1, hq.2, hm.1, hm.2, by omega, HN, hbx, hbw⟩
         case measure => simp [intOf]; omega
     · have hz : k % 2 = 0 := by omega
       rw [hz] at hand; have hq := mulP_in b b
       have HN : Hid (mulP r (powP (mulP b b) (k / 2)) = powP a e) := by
         show _ = _
         rw [pow_even r b k hz, hinv.out]
       have k3 : 0 < (k : Int) / 2 := by omega
       go_wp2_with fail
       refine (mul_big b b b0 b1 b0 b1 _).mono ?_
       rintro x w2 ⟨rfl, hb2⟩; have hbx := box_after hb2 HBX.out; have hbw := bnext hbr hb2; go_wp2_with fail
       go_roundw
       case rel => exact ⟨mulP b b, r, k / 2, rfl, by rw [Int.natCast_ediv]; rfl, rfl, hq.1, hq.2, r0, r1, by omega, HN, hbx, hbw⟩
       case measure => simp [intOf]; omega
def BoxP (w : World) (w' : World) : Prop := Below w.heap.size w w' ∧ w.heap.size < w'.heap.size ∧ ∀ o, w'.cell? ⟨w.heap.size, o, none⟩ = (#[.int .u64 18446744069414584321] : Array Value)[o]?
theorem BoxP.drew {w w' : World} (h : BoxP w w') : BoxP w w'.drew := ⟨h.1.drew, h.2.1, h.2.2⟩
theorem BoxP.next {w w1 w2 : World} (h : BoxP w w1) (hb : Below w1.heap.size w1 w2) : BoxP w w2 :=
 ⟨bnext h.1 hb, Nat.lt_of_lt_of_le h.2.1 hb.size, fun o => (hb.cell (p := ⟨_, o, none⟩) h.2.1).trans (h.2.2 o)⟩
theorem BoxP.of {w w' : World} (hb : Below w.heap.size w w') (hx : w'.heap[w.heap.size]? = some (.cells #[.int .u64 18446744069414584321] 117 (0, 0))) : BoxP w w' := ⟨hb, box_lt hx, (box_cells hx).1⟩
set_option maxHeartbeats 1000000 in
theorem Add_big (a b : Int) (a0 : 0 ≤ a) (b0 : 0 ≤ b) (w : World) :
   Calls Tryz.prog 71 #[.agg #[.int .u64 18446744069414584321], .int .u64 a, .int .u64 b] w fun e w' => e = .returned (.int .u64 (addP a b)) ∧ Below w.heap.size w w' := by
 have ha := redP_in a; have hb := redP_in b; have HR := Lib.hid (addP_red a b)
 go_enter Tryz.func71, Tryz.ntmps71
 go_wp2_with fail
 refine (valid_big _).mono ?_
 rintro e w1 ⟨rfl, hb1⟩; have hbx := BoxP.of (bnext (bnew (Below.refl _ _) _) hb1) (box_after hb1 (box_new w _)); obtain ⟨x0, x1⟩ := box_cells (box_after hb1 (box_new w _)); go_wp2_with fail
 go_region_held3 (fun w' => Below w.heap.size w w' ∧ w.heap.size < w'.heap.size ∧ ∀ o, w'.cell? ⟨w.heap.size, o, none⟩ = (#[.int .u64 18446744069414584321] : Array Value)[o]?)
   (first
     | exact hbx.drew
     | (have hh := (‹Below w.heap.size w _ ∧ _ < _ ∧ _› : BoxP w _); exact BoxP.next hh hbc))
   (first
     | (go_at_call_of 115 a; refine (reduced_big a a0 _).mono ?_; rintro e w2 ⟨rfl, hbc⟩)
     | (go_at_call_of 115 b; refine (reduced_big b b0 _).mono ?_; rintro e w2 ⟨rfl, hbc⟩)
     | (go_at_call 114; refine (add_big _ _ ha.1 ha.2 hb.1 hb.2 _).mono ?_; rintro e w2 ⟨rfl, hbc⟩))
 all_goals (have hh := (‹Below w.heap.size w _ ∧ _ < _ ∧ _› : BoxP w _))
 all_goals go_wp2_with fail
 all_goals go_ret
 all_goals exact ⟨ret_int (by rw [HR.out]), hh.1⟩
set_option maxHeartbeats 1000000 in
theorem Mul_big (a b : Int) (a0 : 0 ≤ a) (b0 : 0 ≤ b) (w : World) :
   Calls Tryz.prog 72 #[.agg #[.int .u64 18446744069414584321], .int .u64 a, .int .u64 b] w fun e w' => e = .returned (.int .u64 (mulP a b)) ∧ Below w.heap.size w w' := by
 have ha := redP_in a; have hb := redP_in b; have HR := Lib.hid (mulP_red a b)
 go_enter Tryz.func72, Tryz.ntmps72
 go_wp2_with fail
 refine (valid_big _).mono ?_
 rintro e w1 ⟨rfl, hb1⟩; have hbx := BoxP.of (bnext (bnew (Below.refl _ _) _) hb1) (box_after hb1 (box_new w _)); obtain ⟨x0, x1⟩ := box_cells (box_after hb1 (box_new w _)); go_wp2_with fail
 go_region_held3 (fun w' => Below w.heap.size w w' ∧ w.heap.size < w'.heap.size ∧ ∀ o, w'.cell? ⟨w.heap.size, o, none⟩ = (#[.int .u64 18446744069414584321] : Array Value)[o]?)
   (first
     | exact hbx.drew
     | (have hh := (‹Below w.heap.size w _ ∧ _ < _ ∧ _› : BoxP w _); exact BoxP.next hh hbc))
   (first
     | (go_at_call_of 115 a; refine (reduced_big a a0 _).mono ?_; rintro e w2 ⟨rfl, hbc⟩)
     | (go_at_call_of 115 b; refine (reduced_big b b0 _).mono ?_; rintro e w2 ⟨rfl, hbc⟩)
     | (go_at_call 116; refine (mul_big _ _ ha.1 ha.2 hb.1 hb.2 _).mono ?_; rintro e w2 ⟨rfl, hbc⟩))
 all_goals (have hh := (‹Below w.heap.size w _ ∧ _ < _ ∧ _› : BoxP w _))
 all_goals go_wp2_with fail
 all_goals go_ret
 all_goals exact ⟨ret_int (by rw [HR.out]), hh.1⟩
set_option maxHeartbeats 1000000 in
theorem Pow_big (a : Int) (a0 : 0 ≤ a) (n : Nat) (hn : n < 18446744073709551616) (w : World) :
   Calls Tryz.prog 118 #[.agg #[.int .u64 18446744069414584321], .int .u64 a, .int .u64 n] w fun e w' => e = .returned (.int .u64 (powP a n)) ∧ Below w.heap.size w w' := by
 have ha := redP_in a; have HR := Lib.hid (powP_red a n)
 go_enter Tryz.func118, Tryz.ntmps118
 go_wp2_with fail
 refine (valid_big _).mono ?_
 rintro e w1 ⟨rfl, hb1⟩; have hbx := BoxP.of (bnext (bnew (Below.refl _ _) _) hb1) (box_after hb1 (box_new w _)); obtain ⟨x0, x1⟩ := box_cells (box_after hb1 (box_new w _)); go_wp2_with fail
 go_region_held3 (fun w' => Below w.heap.size w w' ∧ w.heap.size < w'.heap.size ∧ ∀ o, w'.cell? ⟨w.heap.size, o, none⟩ = (#[.int .u64 18446744069414584321] : Array Value)[o]?)
   (first
     | exact hbx.drew
     | (have hh := (‹Below w.heap.size w _ ∧ _ < _ ∧ _› : BoxP w _); exact BoxP.next hh hbc))
   (first
     | (go_at_call 115; refine (reduced_big a a0 _).mono ?_; rintro e w2 ⟨rfl, hbc⟩)
     | (go_at_call 172; refine (pow_big _ ha.1 ha.2 n hn _).mono ?_; rintro e w2 ⟨rfl, hbc⟩))
 all_goals (have hh := (‹Below w.heap.size w _ ∧ _ < _ ∧ _› : BoxP w _))
 all_goals go_wp2_with fail
 all_goals go_ret
 all_goals exact ⟨ret_int (by rw [HR.out]), hh.1⟩
end Go.Proofs.YtphacfkcifpobaaGreatDoor
/- The permutation at the big prime. -/
namespace Go.Proofs.YtphacfkcifpobaaGreatDoor
open Go.ChangeShapes Go.WideShapes Go.ChangeAt Go.RowKit
abbrev T3 := Int × Int × Int
def cstP (r i : Int) : Int := redP (IntKind.u64.wrap ((3 * r + i + 1) * 11400714819323198485))
def mixS (s : T3) : T3 := (addP s.1 (addP (addP s.1 s.2.1) s.2.2), addP s.2.1 (addP (addP s.1 s.2.1) s.2.2), addP s.2.2 (addP (addP s.1 s.2.1) s.2.2))
def sbox (r i x : Int) : Int := powP (addP x (cstP r i)) 7
def permTo (s : T3) : Nat → T3
 | 0 => s
 | k + 1 => mixS (sbox k 0 (permTo s k).1, sbox k 1 (permTo s k).2.1, sbox k 2 (permTo s k).2.2)
def permS (s : T3) : T3 := permTo s 8
def Words3 (s : T3) : Prop := (0 ≤ s.1 ∧ s.1 < 18446744073709551616) ∧ (0 ≤ s.2.1 ∧ s.2.1 < 18446744073709551616) ∧ (0 ≤ s.2.2 ∧ s.2.2 < 18446744073709551616)
theorem addP_word (a b : Int) : 0 ≤ addP a b ∧ addP a b < 18446744073709551616 := by
 have := addP_in a b
 omega
theorem mixS_words (s : T3) : Words3 (mixS s) := by
 unfold Words3 mixS
 exact ⟨addP_word _ _, addP_word _ _, addP_word _ _⟩
theorem permTo_words {s : T3} (h : Words3 s) : ∀ k, Words3 (permTo s k)
 | 0 => h
 | _ + 1 => mixS_words _
theorem sbox_word (r i x : Int) : 0 ≤ sbox r i x ∧ sbox r i x < 18446744073709551616 := by
 have := powP_in (addP x (cstP r i)) 7
 unfold sbox; omega
theorem Reduce_big (n : Int) (h0 : 0 ≤ n) (w : World) : Calls Tryz.prog 173 #[.agg #[.int .u64 18446744069414584321], .int .u64 n] w fun e w' => e = .returned (.int .u64 (redP n)) ∧ Below w.heap.size w w' := by
 go_enter Tryz.func173, Tryz.ntmps173
 go_wp2_with fail
 refine (valid_big _).mono ?_
 rintro e w1 ⟨rfl, hb1⟩; obtain ⟨x0, x1⟩ := box_cells (box_after hb1 (box_new w _)); go_wp2_with fail
 refine (reduced_big n h0 _).mono ?_
 rintro e w2 ⟨rfl, hb2⟩; go_wp2_with fail; go_ret
 exact ⟨rfl, bnext (bnext (bnew (Below.refl _ _) _) hb1) hb2⟩
set_option maxHeartbeats 1000000 in
theorem constant_big (r i : Int) (r0 : 0 ≤ r) (r1 : r < 8) (i0 : 0 ≤ i) (i1 : i ≤ 2) (w : World) :
   Calls Tryz.prog 119 #[.int .u64 18446744069414584321, .int .i64 r, .int .i64 i] w fun e w' => e = .returned (.int .u64 (cstP r i)) ∧ Below w.heap.size w w' := by
 have hw : 0 ≤ IntKind.u64.wrap ((3 * r + i + 1) * 11400714819323198485) := by rw [IntKind.wrap_u64]; omega
 go_enter Tryz.func119, Tryz.ntmps119
 go_wp2_with fail
 refine (Reduce_big _ hw _).mono ?_
 rintro e w1 ⟨rfl, hb1⟩; go_wp2_with fail; go_ret
 exact ⟨rfl, hb1⟩
def MixAt (w : World) (a b c : Int) (w' : World) : Prop :=
 Below w.heap.size w w' ∧ w.heap.size + 2 < w'.heap.size ∧ (∀ o, w'.cell? ⟨w.heap.size, o, none⟩ = (#[.int .u64 a, .int .u64 b, .int .u64 c] : Array Value)[o]?) ∧ (∀ o, w'.cell? ⟨w.heap.size + 2, o, none⟩ = (#[.int .u64 18446744069414584321] : Array Value)[o]?) ∧
   (∀ o, o < 3 → (w'.cell? ⟨w.heap.size + 1, o, none⟩).isSome = true) ∧ (∀ o, w'.frozen? ⟨w.heap.size + 1, o, none⟩ = false)
theorem MixAt.drew {w w' : World} {a b c : Int} (h : MixAt w a b c w') : MixAt w a b c w'.drew := ⟨h.1.drew, h.2.1, h.2.2.1, h.2.2.2.1, h.2.2.2.2.1, h.2.2.2.2.2⟩
theorem MixAt.next {w w1 w2 : World} {a b c : Int} (h : MixAt w a b c w1) (hb : Below w1.heap.size w1 w2) : MixAt w a b c w2 := by
 obtain ⟨h1, h2, h3, h4, h5, h6⟩ := h; have hz := hb.size
 exact ⟨bnext h1 hb, by omega, fun o => (hb.cell (p := ⟨_, o, none⟩) (show w.heap.size < w1.heap.size by omega)).trans (h3 o), fun o => (hb.cell (p := ⟨_, o, none⟩) h2).trans (h4 o),
   fun o ho => by rw [hb.cell (p := ⟨w.heap.size + 1, o, none⟩) (show w.heap.size + 1 < w1.heap.size by omega)]; exact h5 o ho, fun o => (hb.frozen (p := ⟨w.heap.size + 1, o, none⟩) (show w.heap.size + 1 < w1.heap.size by omega)).trans (h6 o)⟩
theorem read3 {w : World} {b : Nat} {u0 u1 u2 x y z : Value} (k0 : w.cell? ⟨b, 0, none⟩ = some u0) (k1 : w.cell? ⟨b, 1, none⟩ = some u1) (k2 : w.cell? ⟨b, 2, none⟩ = some u2) :
   (((w.setCell ⟨b, 0, none⟩ x).setCell ⟨b, 1, none⟩ y).setCell ⟨b, 2, none⟩ z).cell? ⟨b, 0, none⟩ = some x ∧ (((w.setCell ⟨b, 0, none⟩ x).setCell ⟨b, 1, none⟩ y).setCell ⟨b, 2, none⟩ z).cell? ⟨b, 1, none⟩ = some y ∧
   (((w.setCell ⟨b, 0, none⟩ x).setCell ⟨b, 1, none⟩ y).setCell ⟨b, 2, none⟩ z).cell? ⟨b, 2, none⟩ = some z := by
 have d01 : (⟨b, 0, none⟩ : Addr) ≠ ⟨b, 1, none⟩ := by simp
 have d02 : (⟨b, 0, none⟩ : Addr) ≠ ⟨b, 2, none⟩ := by simp
 have d12 : (⟨b, 1, none⟩ : Addr) ≠ ⟨b, 2, none⟩ := by simp
 refine ⟨?_, ?_, ?_⟩
 · rw [World.cell?_setCell_other _ _ _ _ d02.symm, World.cell?_setCell_other _ _ _ _ d01.symm]; exact World.cell?_setCell_same _ _ _ k0
 · rw [World.cell?_setCell_other _ _ _ _ d12.symm]; exact World.cell?_setCell_same _ _ _ ((World.cell?_setCell_other _ _ _ _ d01).trans k1)
 · exact World.cell?_setCell_same _ _ _ ((World.cell?_setCell_other _ _ _ _ d12).trans ((World.cell?_setCell_other _ _ _ _ d02).trans k2))
theorem MixAt.store {w w' : World} {a b c : Int} (h : MixAt w a b c w') (x y z : Value) : MixAt w a b c (((w'.setCell ⟨w.heap.size + 1, 0, none⟩ x).setCell ⟨w.heap.size + 1, 1, none⟩ y).setCell ⟨w.heap.size + 1, 2, none⟩ z) := by
 obtain ⟨h1, h2, h3, h4, h5, h6⟩ := h
 obtain ⟨u0, k0⟩ := Option.isSome_iff_exists.1 (h5 0 (by omega))
 obtain ⟨u1, k1⟩ := Option.isSome_iff_exists.1 (h5 1 (by omega))
 obtain ⟨u2, k2⟩ := Option.isSome_iff_exists.1 (h5 2 (by omega))
 obtain ⟨r0, r1, r2⟩ := read3 (x := x) (y := y) (z := z) k0 k1 k2
 have far : ∀ (q o : Nat), q ≠ w.heap.size + 1 → (((w'.setCell ⟨w.heap.size + 1, 0, none⟩ x).setCell ⟨w.heap.size + 1, 1, none⟩ y).setCell ⟨w.heap.size + 1, 2, none⟩ z).cell? ⟨q, o, none⟩ = w'.cell? ⟨q, o, none⟩ := fun q o hq => by
   rw [World.cell?_setCell_far _ _ _ _ (fun e => hq e.symm), World.cell?_setCell_far _ _ _ _ (fun e => hq e.symm), World.cell?_setCell_far _ _ _ _ (fun e => hq e.symm)]
 refine ⟨((h1.setCell (Nat.le_succ _) _).setCell (Nat.le_succ _) _).setCell (Nat.le_succ _) _, by rw [World.size_setCell, World.size_setCell, World.size_setCell]; exact h2, fun o => (far _ o (by omega)).trans (h3 o), fun o => (far _ o (by omega)).trans (h4 o), fun o ho => ?_, fun o => by rw [World.frozen?_setCell, World.frozen?_setCell, World.frozen?_setCell]; exact h6 o⟩
 match o, ho with
 | 0, _ => rw [r0]; rfl
 | 1, _ => rw [r1]; rfl
 | 2, _ => rw [r2]; rfl
theorem three_new (w : World) (a b c : Obj) : (((w.alloc a).alloc b).alloc c).heap[w.heap.size + 2]? = some c ∧ (((w.alloc a).alloc b).alloc c).heap[w.heap.size + 1]? = some b ∧ (((w.alloc a).alloc b).alloc c).heap[w.heap.size]? = some a := by
 have e1 : (w.alloc a).heap.size = w.heap.size + 1 := World.size_alloc ..
 have e2 : ((w.alloc a).alloc b).heap.size = w.heap.size + 2 := by rw [World.size_alloc, e1]
 exact ⟨e2 ▸ box_new _ c, box_old (e1 ▸ box_new _ b), box_old (box_old (box_new _ a))⟩
theorem MixAt.start (w : World) (a b c : Int) : MixAt w a b c (((w.alloc (.cells #[.int .u64 a, .int .u64 b, .int .u64 c] 118)).alloc (.cells #[.int .u64 0, .int .u64 0, .int .u64 0] 118)).alloc (.cells #[.int .u64 18446744069414584321] 117)) := by
 obtain ⟨q1, q2, q3⟩ := three_new w (.cells #[.int .u64 a, .int .u64 b, .int .u64 c] 118) (.cells #[.int .u64 0, .int .u64 0, .int .u64 0] 118) (.cells #[.int .u64 18446744069414584321] 117)
 refine ⟨bnew (bnew (bnew (Below.refl _ _) _) _) _, box_lt q1, (box_cells q3).1, (box_cells q1).1, fun o ho => ?_, (box_cells q2).2⟩
 rw [(box_cells q2).1]
 match o, ho with
 | 0, _ => rfl
 | 1, _ => rfl
 | 2, _ => rfl
set_option maxHeartbeats 1000000 in
theorem mix_big (a b c : Int) (a0 : 0 ≤ a) (b0 : 0 ≤ b) (c0 : 0 ≤ c) (w : World) :
   Calls Tryz.prog 120 #[.int .u64 18446744069414584321, .agg #[.int .u64 a, .int .u64 b, .int .u64 c]] w
     fun e w' => e = .returned (.agg #[.int .u64 (mixS (a, b, c)).1, .int .u64 (mixS (a, b, c)).2.1, .int .u64 (mixS (a, b, c)).2.2]) ∧ Below w.heap.size w w' := by
 have hab := addP_word a b
 go_enter Tryz.func120, Tryz.ntmps120
 go_wp2_with fail; have hst : MixAt w a b c (((w.alloc (.cells #[.int .u64 a, .int .u64 b, .int .u64 c] 118)).alloc (.cells #[.int .u64 0, .int .u64 0, .int .u64 0] 118)).alloc (.cells #[.int .u64 18446744069414584321] 117)) := MixAt.start w a b c
 go_region_held3 (fun w' => Below w.heap.size w w' ∧ w.heap.size + 2 < w'.heap.size ∧ (∀ o, w'.cell? ⟨w.heap.size, o, none⟩ = (#[.int .u64 a, .int .u64 b, .int .u64 c] : Array Value)[o]?) ∧ (∀ o, w'.cell? ⟨w.heap.size + 2, o, none⟩ = (#[.int .u64 18446744069414584321] : Array Value)[o]?) ∧
   (∀ o, o < 3 → (w'.cell? ⟨w.heap.size + 1, o, none⟩).isSome = true) ∧ (∀ o, w'.frozen? ⟨w.heap.size + 1, o, none⟩ = false))
   (first
     | exact hst.drew
     | (have hh := (‹Below w.heap.size w _ ∧ _ < _ ∧ _› : MixAt w a b c _); exact MixAt.next hh hbc))
   (first
     | (go_at_call_of 71 c; refine (Add_big (addP a b) c hab.1 c0 _).mono ?_; rintro e w2 ⟨rfl, hbc⟩)
     | (go_at_call 71; refine (Add_big a b a0 b0 _).mono ?_; rintro e w2 ⟨rfl, hbc⟩))
 have hst2 := (‹Below w.heap.size w _ ∧ _ < _ ∧ _› : MixAt w a b c _); clear hst; obtain ⟨m, hm⟩ : ∃ m : Int, addP (addP a b) c = m := ⟨_, rfl⟩
 have m0 : 0 ≤ m := by have := addP_word (addP a b) c; omega
 have HM := Lib.hid hm; rw [hm]; clear hm; go_wp2_with fail
 go_region_held3 (fun w' => Below w.heap.size w w' ∧ w.heap.size + 2 < w'.heap.size ∧ (∀ o, w'.cell? ⟨w.heap.size, o, none⟩ = (#[.int .u64 a, .int .u64 b, .int .u64 c] : Array Value)[o]?) ∧ (∀ o, w'.cell? ⟨w.heap.size + 2, o, none⟩ = (#[.int .u64 18446744069414584321] : Array Value)[o]?) ∧
   (∀ o, o < 3 → (w'.cell? ⟨w.heap.size + 1, o, none⟩).isSome = true) ∧ (∀ o, w'.frozen? ⟨w.heap.size + 1, o, none⟩ = false))
   (first
     | exact MixAt.drew hst2
     | (have hh := (‹Below w.heap.size w _ ∧ _ < _ ∧ _› : MixAt w a b c _); exact MixAt.next hh hbc)
     | (have hh := (‹Below w.heap.size w _ ∧ _ < _ ∧ _› : MixAt w a b c _); exact MixAt.store hh _ _ _))
   (first
     | (go_at_call_of 71 a; refine (Add_big a m a0 m0 _).mono ?_; rintro e w3 ⟨rfl, hbc⟩)
     | (go_at_call_of 71 b; refine (Add_big b m b0 m0 _).mono ?_; rintro e w3 ⟨rfl, hbc⟩)
     | (go_at_call_of 71 c; refine (Add_big c m c0 m0 _).mono ?_; rintro e w3 ⟨rfl, hbc⟩)
     | (have hh := ‹Below w.heap.size w _ ∧ _ < _ ∧ _›; obtain ⟨u0, k0⟩ := Option.isSome_iff_exists.1 (hh.2.2.2.2.1 0 (by omega)); obtain ⟨u1, k1⟩ := Option.isSome_iff_exists.1 (hh.2.2.2.2.1 1 (by omega)); obtain ⟨u2, k2⟩ := Option.isSome_iff_exists.1 (hh.2.2.2.2.1 2 (by omega)); go_simp))
 have hfin := (‹Below w.heap.size w _ ∧ _ < _ ∧ _›).1; obtain ⟨r0, r1, r2⟩ := read3 (x := .int .u64 (addP a m)) (y := .int .u64 (addP b m)) (z := .int .u64 (addP c m)) k0 k1 k2; go_wp2_with fail
 refine bodyPost_ret (v := .agg #[.int .u64 (addP a m), .int .u64 (addP b m), .int .u64 (addP c m)]) (by simp [results, Tryz.results120, go_sem, r0, r1, r2]) rfl ⟨?_, hfin⟩
 unfold mixS; rw [HM.out]
end Go.Proofs.YtphacfkcifpobaaGreatDoor
/- Notes, statements, witnesses: data and representations; the hash of lists, in plain numbers; no conditions. -/
namespace Go.Proofs.YtphacfkcifpobaaGreatDoor
open Go.ChangeShapes Go.WideShapes Go.ChangeAt Go.RowKit
structure NoteM where
 value : Int
 owner : Int
 rho : Int
 blind : Int
structure SpentM where
 note : NoteM
 key : Int
 number : Int
 position : Int
 path : List Int
 dummy : Bool
structure WitM where
 ins : List SpentM
 outs : List NoteM
 secret : Int
structure StM where
 depth : Int
 anchor : Int
 marks : List Int
 commits : List Int
 rhos : List Int
 dep : Int
 wd : Int
 fee : Int
 acc : Int
 bind : Int
def noteR : Rep NoteM := mapR (fun n => (n.value, n.owner, n.rho, n.blind)) (pairR u64R (pairR u64R (pairR u64R u64R)))
theorem noteR.n : noteR.n = 4 := rfl
abbrev notesR : Rep (List NoteM) := sliceR noteR
def spentR : Rep SpentM := mapR (fun s => (s.note, s.key, s.number, s.position, s.path, s.dummy)) (pairR noteR (pairR u64R (pairR (intR .i64) (pairR (intR .i64) (pairR numsR boolR)))))
theorem spentR.n : spentR.n = 9 := rfl
abbrev spentsR : Rep (List SpentM) := sliceR spentR
abbrev okI (x : Int) : Prop := (Lit.int .i64 x).wf = true
theorem okU_in {x : Int} (h : okU x) : 0 ≤ x ∧ x < 18446744073709551616 := by
 simp [okU, Lit.wf, IntKind.min, IntKind.max, IntKind.signed, IntKind.bits] at h; omega
theorem okU_of {x : Int} (h0 : 0 ≤ x) (h1 : x < 18446744073709551616) : okU x := by
 simp [okU, Lit.wf, IntKind.min, IntKind.max, IntKind.signed, IntKind.bits]; omega
theorem okI_in {x : Int} (h : okI x) : -9223372036854775808 ≤ x ∧ x < 9223372036854775808 := by
 simp [okI, Lit.wf, IntKind.min, IntKind.max, IntKind.signed, IntKind.bits] at h; omega
theorem okI_of {x : Int} (h0 : -9223372036854775808 ≤ x) (h1 : x < 9223372036854775808) : okI x := by
 simp [okI, Lit.wf, IntKind.min, IntKind.max, IntKind.signed, IntKind.bits]; omega
theorem okB_in {x : Int} (h : (Lit.int .u8 x).wf = true) : 0 ≤ x ∧ x < 256 := by
 simp [Lit.wf, IntKind.min, IntKind.max, IntKind.signed, IntKind.bits] at h; omega
structure NoteOk (n : NoteM) : Prop where
 value : okU n.value
 owner : okU n.owner
 rho : okU n.rho
 blind : okU n.blind
theorem noteR.inv {S : Nat → Prop} {w : World} {cs : List Value} {n : NoteM} (h : noteR.rel S w cs n) : cs = [.int .u64 n.value, .int .u64 n.owner, .int .u64 n.rho, .int .u64 n.blind] ∧ NoteOk n := by
 obtain ⟨_, _, rfl, ⟨rfl, w1⟩, _, _, rfl, ⟨rfl, w2⟩, _, _, rfl, ⟨rfl, w3⟩, ⟨rfl, w4⟩⟩ := h
 exact ⟨rfl, w1, w2, w3, w4⟩
theorem noteR.mk {S : Nat → Prop} {w : World} {n : NoteM} (h : NoteOk n) : noteR.rel S w [.int .u64 n.value, .int .u64 n.owner, .int .u64 n.rho, .int .u64 n.blind] n :=
 ⟨[_], [_, _, _], rfl, ⟨rfl, h.value⟩, [_], [_, _], rfl, ⟨rfl, h.owner⟩, [_], [_], rfl, ⟨rfl, h.rho⟩, ⟨rfl, h.blind⟩⟩
structure SpentOk (s : SpentM) : Prop where
 note : NoteOk s.note
 key : okU s.key
 number : okI s.number
 position : okI s.position
def spentCells (s : SpentM) (a : Option Addr) (cap : Nat) : List Value :=
 [.int .u64 s.note.value, .int .u64 s.note.owner, .int .u64 s.note.rho, .int .u64 s.note.blind, .int .u64 s.key, .int .i64 s.number, .int .i64 s.position, .slice a s.path.length cap, .bool s.dummy]
theorem spentR.inv {S : Nat → Prop} {w : World} {cs : List Value} {s : SpentM} (h : spentR.rel S w cs s) : ∃ a cap, cs = spentCells s a cap ∧ SpentOk s ∧ numsR.rel S w [.slice a s.path.length cap] s.path := by
 obtain ⟨c1, _, rfl, h1, _, _, rfl, ⟨rfl, w2⟩, _, _, rfl, ⟨rfl, w3⟩, _, _, rfl, ⟨rfl, w4⟩, _, _, rfl, h5, rfl⟩ := h; obtain ⟨rfl, hn⟩ := noteR.inv h1; obtain ⟨a, cap, rfl⟩ := one_form h5
 exact ⟨a, cap, rfl, ⟨hn, w2, w3, w4⟩, h5⟩
theorem spentR.mk {S : Nat → Prop} {w : World} {s : SpentM} {a : Option Addr} {cap : Nat} (h : SpentOk s) (hp : numsR.rel S w [.slice a s.path.length cap] s.path) : spentR.rel S w (spentCells s a cap) s :=
 ⟨[_, _, _, _], [_, _, _, _, _], rfl, noteR.mk h.note, [_], [_, _, _, _], rfl, ⟨rfl, h.key⟩, [_], [_, _, _], rfl, ⟨rfl, h.number⟩, [_], [_, _], rfl, ⟨rfl, h.position⟩, [_], [_], rfl, hp, rfl⟩
theorem nums_at {S : Nat → Prop} {w : World} {a : Option Addr} {len cap : Nat} {l : List Int} (h : numsR.rel S w [.slice a len cap] l) (k : Nat) (hk : k < l.length) :
   ∃ b off, a = some ⟨b, off, none⟩ ∧ b < w.heap.size ∧ 0 ≤ l[k] ∧ l[k] < 18446744073709551616 ∧ w.cell? ⟨b, off + k, none⟩ = some (.int .u64 l[k]) := by
 obtain ⟨b, off, es, rfl, hb, hbl, ⟨rfl, hw⟩, hca⟩ := sliceR.at h k hk; have := hca 0 _ rfl; have h2 := okU_in hw
 exact ⟨b, off, rfl, hbl, h2.1, h2.2, by simpa [intR] using this⟩
theorem bytes_at {S : Nat → Prop} {w : World} {a : Option Addr} {len cap : Nat} {l : List Int} (h : bytesR.rel S w [.slice a len cap] l) (k : Nat) (hk : k < l.length) :
   ∃ b off, a = some ⟨b, off, none⟩ ∧ b < w.heap.size ∧ S b ∧ 0 ≤ l[k] ∧ l[k] < 256 ∧ w.cell? ⟨b, off + k, none⟩ = some (.int .u8 l[k]) := by
 obtain ⟨b, off, es, rfl, hb, hbl, ⟨rfl, hw⟩, hca⟩ := sliceR.at h k hk; have := hca 0 _ rfl; have h2 := okB_in hw
 exact ⟨b, off, rfl, hbl, hb, h2.1, h2.2, by simpa [intR] using this⟩
theorem notes_at {S : Nat → Prop} {w : World} {a : Option Addr} {len cap : Nat} {l : List NoteM} (h : notesR.rel S w [.slice a len cap] l) (k : Nat) (hk : k < l.length) :
   ∃ b off, a = some ⟨b, off, none⟩ ∧ b < w.heap.size ∧ NoteOk l[k] ∧ w.cell? ⟨b, off + k * 4, none⟩ = some (.int .u64 l[k].value) ∧ w.cell? ⟨b, off + k * 4 + 1, none⟩ = some (.int .u64 l[k].owner) ∧
     w.cell? ⟨b, off + k * 4 + 2, none⟩ = some (.int .u64 l[k].rho) ∧ w.cell? ⟨b, off + k * 4 + 3, none⟩ = some (.int .u64 l[k].blind) := by
 obtain ⟨b, off, es, rfl, hb, hbl, hrel, hca⟩ := sliceR.at h k hk; obtain ⟨rfl, hn⟩ := noteR.inv hrel; rw [noteR.n] at hca
 exact ⟨b, off, rfl, hbl, hn, hca 0 _ rfl, hca 1 _ rfl, hca 2 _ rfl, hca 3 _ rfl⟩
theorem spents_at {S : Nat → Prop} {w : World} {a : Option Addr} {len cap : Nat} {l : List SpentM} (h : spentsR.rel S w [.slice a len cap] l) (k : Nat) (hk : k < l.length) :
   ∃ b off pa pc, a = some ⟨b, off, none⟩ ∧ b < w.heap.size ∧ SpentOk l[k] ∧ numsR.rel S w [.slice pa l[k].path.length pc] l[k].path ∧
     w.cell? ⟨b, off + k * 9, none⟩ = some (.int .u64 l[k].note.value) ∧ w.cell? ⟨b, off + k * 9 + 1, none⟩ = some (.int .u64 l[k].note.owner) ∧
     w.cell? ⟨b, off + k * 9 + 2, none⟩ = some (.int .u64 l[k].note.rho) ∧ w.cell? ⟨b, off + k * 9 + 3, none⟩ = some (.int .u64 l[k].note.blind) ∧
     w.cell? ⟨b, off + k * 9 + 4, none⟩ = some (.int .u64 l[k].key) ∧ w.cell? ⟨b, off + k * 9 + 5, none⟩ = some (.int .i64 l[k].number) ∧
     w.cell? ⟨b, off + k * 9 + 6, none⟩ = some (.int .i64 l[k].position) ∧ w.cell? ⟨b, off + k * 9 + 7, none⟩ = some (.slice pa l[k].path.length pc) ∧
     w.cell? ⟨b, off + k * 9 + 8, none⟩ = some (.bool l[k].dummy) := by
 obtain ⟨b, off, es, rfl, hb, hbl, hrel, hca⟩ := sliceR.at h k hk; obtain ⟨pa, pc, rfl, hn, hp⟩ := spentR.inv hrel; rw [spentR.n] at hca
 exact ⟨b, off, pa, pc, rfl, hbl, hn, hp, hca 0 _ rfl, hca 1 _ rfl, hca 2 _ rfl, hca 3 _ rfl, hca 4 _ rfl, hca 5 _ rfl, hca 6 _ rfl, hca 7 _ rfl, hca 8 _ rfl⟩
def absLoop (s : T3) : List Int → T3
 | [] => s
 | [x] => permS (addP s.1 x, s.2.1, s.2.2)
 | x :: y :: r => absLoop (permS (addP s.1 x, addP s.2.1 y, s.2.2)) r
def absStart (label : Int) (n : Nat) : T3 := (0, 0, addP (mulP label 65536) n)
def absorbS (label : Int) (l : List Int) : T3 := if l.length = 0 then permS (absStart label 0) else absLoop (absStart label l.length) l
def hashS (label : Int) (l : List Int) : Int := (absorbS label l).1
theorem permS_in (s : T3) : 0 ≤ (permS s).1 ∧ (permS s).1 < 18446744069414584321 := addP_in _ _
theorem permS_words (s : T3) : Words3 (permS s) := mixS_words _
theorem absLoop_in : ∀ (s : T3) (l : List Int), l ≠ [] → 0 ≤ (absLoop s l).1 ∧ (absLoop s l).1 < 18446744069414584321
 | _, [], h => absurd rfl h
 | _, [_], _ => permS_in _
 | _, [_, _], _ => permS_in _
 | _, _ :: _ :: z :: r, _ => absLoop_in _ (z :: r) (by simp)
theorem hashS_in (label : Int) (l : List Int) : 0 ≤ hashS label l ∧ hashS label l < 18446744069414584321 := by
 unfold hashS absorbS
 split
 · exact permS_in _
 · exact absLoop_in _ _ (fun h => by simp [h] at *)
theorem absStart_words (label : Int) (n : Nat) : Words3 (absStart label n) := by
 have := addP_word (mulP label 65536) n
 unfold Words3 absStart; simp; omega
theorem absLoop_two (s : T3) (l : List Int) (i : Nat) (h : i + 1 < l.length) : absLoop s (l.drop i) = absLoop (permS (addP s.1 l[i], addP s.2.1 l[i + 1], s.2.2)) (l.drop (i + 2)) := by
 rw [List.drop_eq_getElem_cons (show i < l.length by omega), List.drop_eq_getElem_cons h]; rfl
theorem absLoop_one (s : T3) (l : List Int) (i : Nat) (h : i < l.length) (h2 : l.length ≤ i + 1) : absLoop s (l.drop i) = permS (addP s.1 l[i], s.2.1, s.2.2) := by
 rw [List.drop_eq_getElem_cons h, List.drop_of_length_le h2]; rfl
def leN : List Int → Int
 | [] => 0
 | d :: r => d + 256 * leN r
theorem leN_snoc : ∀ (l : List Int) (d : Int), leN (l ++ [d]) = leN l + d * 256 ^ l.length
 | [], d => by simp [leN]
 | x :: l, d => by
   simp only [List.cons_append, leN, leN_snoc l d, List.length_cons, Int.pow_succ]
   rw [Int.mul_add, ← Int.mul_assoc, Int.mul_comm 256 d, Int.mul_assoc, Int.mul_comm 256 (256 ^ l.length), Int.add_assoc]
theorem leN_in : ∀ (l : List Int), (∀ d ∈ l, 0 ≤ d ∧ d < 256) → 0 ≤ leN l ∧ leN l < 256 ^ l.length
 | [], _ => by simp [leN]
 | x :: l, h => by
   have h1 := h x (by simp)
   have h2 := leN_in l fun d hd => h d (by simp [hd])
   simp only [leN, List.length_cons, Int.pow_succ]
   omega
end Go.Proofs.YtphacfkcifpobaaGreatDoor
