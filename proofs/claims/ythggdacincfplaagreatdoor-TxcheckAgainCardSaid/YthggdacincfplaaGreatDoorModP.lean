/- Arithmetic modulo the big prime, and long division by it, in plain numbers. Nothing of the program is named here. -/
namespace Go.Proofs.YthggdacincfplaaGreatDoor

def addP (a b : Int) : Int := (a + b) % 18446744069414584321
def mulP (a b : Int) : Int := a * b % 18446744069414584321
def redP (a : Int) : Int := a % 18446744069414584321
def powP (a : Int) (e : Nat) : Int := a ^ e % 18446744069414584321

theorem addP_in (a b : Int) : 0 ≤ addP a b ∧ addP a b < 18446744069414584321 := by unfold addP; omega
theorem mulP_in (a b : Int) : 0 ≤ mulP a b ∧ mulP a b < 18446744069414584321 := by
  unfold mulP; generalize a * b = c; omega
theorem redP_in (a : Int) : 0 ≤ redP a ∧ redP a < 18446744069414584321 := by unfold redP; omega
theorem powP_in (a : Int) (e : Nat) : 0 ≤ powP a e ∧ powP a e < 18446744069414584321 := by
  unfold powP; generalize a ^ e = c; omega
theorem redP_small {a : Int} (h0 : 0 ≤ a) (h1 : a < 18446744069414584321) : redP a = a := by unfold redP; omega
theorem addP_red (a b : Int) : addP (redP a) (redP b) = addP a b := by unfold addP redP; omega
theorem mulP_red (a b : Int) : mulP (redP a) (redP b) = mulP a b := by unfold mulP redP; exact (Int.mul_emod a b _).symm
theorem pow_emod (a n : Int) : ∀ e : Nat, (a % n) ^ e % n = a ^ e % n
  | 0 => by rw [Int.pow_zero, Int.pow_zero]
  | e + 1 => by
    rw [Int.pow_succ, Int.pow_succ, Int.mul_emod, pow_emod a n e, Int.emod_emod, ← Int.mul_emod]
theorem powP_red (a : Int) (e : Nat) : powP (redP a) e = powP a e := by unfold powP redP; exact pow_emod a _ e

/-- One step of raising to a power: the exponent is odd or even. -/
theorem pow_odd (r b : Int) (k : Nat) (hk : k % 2 = 1) : mulP (mulP r b) (powP (mulP b b) (k / 2)) = mulP r (powP b k) := by
  unfold mulP powP
  rw [pow_emod, ← Int.mul_emod, Int.mul_emod r, Int.emod_emod, ← Int.mul_emod]
  have e : (b * b) ^ (k / 2) = b ^ (2 * (k / 2)) := by rw [Int.pow_mul]; congr 1; exact (Int.pow_succ b 1).symm ▸ by rw [Int.pow_one]
  have e2 : b ^ k = b ^ (2 * (k / 2)) * b := by rw [← Int.pow_succ]; congr 1; omega
  rw [e, e2, Int.mul_comm (b ^ _) b, ← Int.mul_assoc]
theorem pow_even (r b : Int) (k : Nat) (hk : k % 2 = 0) : mulP r (powP (mulP b b) (k / 2)) = mulP r (powP b k) := by
  unfold mulP powP
  rw [pow_emod]
  have e : (b * b) ^ (k / 2) = b ^ (2 * (k / 2)) := by rw [Int.pow_mul]; congr 1; exact (Int.pow_succ b 1).symm ▸ by rw [Int.pow_one]
  rw [e, show 2 * (k / 2) = k by omega]
theorem mulP_one {r : Int} (h0 : 0 ≤ r) (h1 : r < 18446744069414584321) (b : Int) : mulP r (powP b 0) = r := by
  unfold mulP powP; rw [Int.pow_zero]; omega
theorem powP_of (a : Int) (e : Nat) : mulP 1 (powP a e) = powP a e := by
  have := powP_in a e
  unfold mulP; omega

/-! Long division of a number of two words by the prime. -/
/-- A guess q of a quotient, with what is left. -/
def Guess (hi un q r : Int) : Prop :=
  hi = q * 4294967295 + r ∧ 0 ≤ q ∧ ((0 ≤ r ∧ r < 4294967295 ∧ q ≤ 4294967296) ∨ (r = 4294967295 ∧ q ≤ 4294967295 ∧ un ≤ q))
theorem Guess.start {hi un : Int} (h0 : 0 ≤ hi) (h1 : hi < 18446744069414584321) : Guess hi un (hi / 4294967295) (hi - hi / 4294967295 * 4294967295) := by
  unfold Guess; omega
theorem Guess.next {hi un q r : Int} (h : Guess hi un q r) (h1 : hi < 18446744069414584321) (hu : 0 ≤ un) (hu1 : un < 4294967296) (hc : 4294967296 ≤ q ∨ 4294967296 * r + un < q) : Guess hi un (q - 1) (r + 4294967295) ∧ r + 4294967295 < 4294967296 ∧ 1 ≤ q ∧ r = 0 := by
  unfold Guess at *; omega
theorem Guess.done {hi un q r : Int} (h : Guess hi un q r) (hu : 0 ≤ un) (hu1 : un < 4294967296) (h1 : q < 4294967296) (h2 : q ≤ 4294967296 * r + un) :
    (hi * 4294967296 + un) - q * 18446744069414584321 = 4294967296 * r + un - q ∧ 0 ≤ 4294967296 * r + un - q ∧ 4294967296 * r + un - q < 18446744069414584321 := by
  unfold Guess at h; omega
theorem Guess.bounds {hi un q r : Int} (h : Guess hi un q r) : 0 ≤ q ∧ q ≤ 4294967296 ∧ 0 ≤ r ∧ r ≤ 4294967295 := by
  unfold Guess at h; omega
end Go.Proofs.YthggdacincfplaaGreatDoor
