/- Division of two words by the big prime, and multiplication modulo it. -/
import Derived.Test.YthggdacincfplaaGreatDoorField
namespace Go.Proofs.YthggdacincfplaaGreatDoor
open Go.ChangeShapes Go.WideShapes Go.ChangeAt Go.RowKit

set_option maxRecDepth 100000 in
theorem len64_big (w : World) : Calls Tryz.prog 270 #[.int .u64 18446744069414584321] w fun e w' => e = .returned (.int .i64 64) ∧ w = w' := by
  go_enter Tryz.func270, Tryz.ntmps270
  go_wp2
  go_ret
  exact ⟨by kernel_rfl, rfl⟩
theorem lz64_big (w : World) : Calls Tryz.prog 324 #[.int .u64 18446744069414584321] w fun e w' => e = .returned (.int .i64 0) ∧ w = w' := by
  go_enter Tryz.func324, Tryz.ntmps324
  go_wp2_with fail
  refine (len64_big _).mono ?_
  rintro e w1 ⟨rfl, rfl⟩
  go_wp2
  go_ret
  exact ⟨rfl, rfl⟩

theorem and_big : bits .and .u64 18446744069414584321 4294967295 = 1 := by decide +kernel
theorem or_zero (a : Int) (h0 : 0 ≤ a) (h1 : a < 18446744073709551616) : bits .or .u64 a 0 = a := by
  obtain ⟨n, rfl⟩ := Int.eq_ofNat_of_zero_le h0
  have h := bits_or_u64_nat n 0 (by omega) (by omega)
  simpa using h
theorem and_mask (a : Int) (h0 : 0 ≤ a) (h1 : a < 18446744073709551616) : bits .and .u64 a 4294967295 = a % 4294967296 := by
  obtain ⟨n, rfl⟩ := Int.eq_ofNat_of_zero_le h0
  have h := Mul64.maskN n (by omega)
  rw [h]; omega
/-- What is left of two words. -/
def leftOf (hi lo : Int) : Int := (hi * 18446744073709551616 + lo) % 18446744069414584321
def DivRet (hi lo : Int) (w : World) (e : Ending) (w' : World) : Prop := ∃ q, e = .returned (.tuple #[.int .u64 q, .int .u64 (leftOf hi lo)]) ∧ Below w.heap.size w w'

set_option maxRecDepth 100000 in
set_option maxHeartbeats 2000000 in
theorem div64_any (hi lo : Int) (h0 : 0 ≤ hi) (h1 : hi < 18446744069414584321) (l0 : 0 ≤ lo) (l1 : lo < 18446744073709551616) (w : World) :
    Calls Tryz.prog 299 #[.int .u64 hi, .int .u64 lo, .int .u64 18446744069414584321] w (DivRet hi lo w) := by
  by_cases hz : hi = 0
  · subst hz
    go_enter Tryz.func299, Tryz.ntmps299
    go_wp2_with fail
    go_quiet (fail)
    go_wp2_with fail
    go_ret2
    exact ⟨_, by unfold leftOf; simp; rfl, by repeat (first | exact Below.refl _ _ | refine bdrewN ?_ _)⟩
  · have hz2 : (hi == 0) = false := by simpa using hz
    have hpos : 0 < hi := by omega
    clear hz
    have eA := and_big
    have eB : lo / 18446744073709551616 = 0 := by omega
    have eC := or_zero hi h0 (by omega)
    have eD := and_mask lo l0 l1
    go_enter Tryz.func299, Tryz.ntmps299
    go_wp2_with fail
    refine (lz64_big _).mono ?_
    rintro e w1 ⟨rfl, rfl⟩
    go_wp2_with fail
    clear eA eB eC
    obtain ⟨u, hu⟩ : ∃ u : Int, lo / 4294967296 = u := ⟨_, rfl⟩
    obtain ⟨v, hv⟩ : ∃ v : Int, lo % 4294967296 = v := ⟨_, rfl⟩
    have u0 : 0 ≤ u := by omega
    have u1 : u < 4294967296 := by omega
    have v0 : 0 ≤ v := by omega
    have v1 : v < 4294967296 := by omega
    have HLO : Hid (lo = u * 4294967296 + v) := by show _ = _; omega
    rw [hu, hv]
    clear hu hv eD
    go_loop [15, 16] (fun q r => ∃ a b : Int, q = .int .u64 a ∧ r = .int .u64 b ∧ Guess hi u a b) (fun q _ => (intOf q).toNat)
    case atStart => exact ⟨_, _, rfl, rfl, Guess.start h0 h1⟩
    case round =>
      obtain ⟨a, b, rfl, rfl, hg⟩ := hrel
      have HG := Lib.hid hg
      obtain ⟨a0, a1, b0, b1⟩ := hg.bounds
      clear hg
      by_cases c1 : 4294967296 ≤ a
      · obtain ⟨n1, n2, n3, n4⟩ := HG.out.next h1 u0 u1 (.inl c1)
        subst n4
        go_wp2_with fail
        go_round
        case rel => exact ⟨a - 1, 0 + 4294967295, rfl, rfl, n1⟩
        case measure => simp [intOf]; omega
      · by_cases c2 : 4294967296 * b + u < a
        · obtain ⟨n1, n2, n3, n4⟩ := HG.out.next h1 u0 u1 (.inr c2)
          subst n4
          go_wp2_with fail
          go_round
          case rel => exact ⟨a - 1, 0 + 4294967295, rfl, rfl, n1⟩
          case measure => simp [intOf]; omega
        · obtain ⟨d1, d2, d3⟩ := HG.out.done u0 u1 (by omega) (by omega)
          obtain ⟨U, hU⟩ : ∃ U : Int, 4294967296 * b + u - a = U := ⟨_, rfl⟩
          have HD : Hid (hi * 4294967296 + u = a * 18446744069414584321 + U) := by show _ = _; omega
          have eU : IntKind.u64.wrap (IntKind.u64.wrap (IntKind.u64.wrap (hi * 4294967296) + u) - IntKind.u64.wrap (a * 18446744069414584321)) = U := by
            rw [IntKind.wrap_u64, IntKind.wrap_u64, IntKind.wrap_u64, IntKind.wrap_u64]; omega
          have U0 : 0 ≤ U := by omega
          have U1 : U < 18446744069414584321 := by omega
          clear d1 d2 d3 hU HG
          go_wp2_with fail
          clear eU
          go_loop [18, 16] (fun q r => ∃ c d : Int, q = .int .u64 c ∧ r = .int .u64 d ∧ Guess U v c d) (fun q _ => (intOf q).toNat)
          case atStart => exact ⟨_, _, rfl, rfl, Guess.start U0 U1⟩
          case round =>
            obtain ⟨c, d, rfl, rfl, hg⟩ := hrel
            have HG := Lib.hid hg
            obtain ⟨k0, k1, k2, k3⟩ := hg.bounds
            clear hg
            by_cases c3 : 4294967296 ≤ c
            · obtain ⟨n1, n2, n3, n4⟩ := HG.out.next U1 v0 v1 (.inl c3)
              subst n4
              go_wp2_with fail
              go_round
              case rel => exact ⟨c - 1, 0 + 4294967295, rfl, rfl, n1⟩
              case measure => simp [intOf]; omega
            · by_cases c4 : 4294967296 * d + v < c
              · obtain ⟨n1, n2, n3, n4⟩ := HG.out.next U1 v0 v1 (.inr c4)
                subst n4
                go_wp2_with fail
                go_round
                case rel => exact ⟨c - 1, 0 + 4294967295, rfl, rfl, n1⟩
                case measure => simp [intOf]; omega
              · obtain ⟨d1, d2, d3⟩ := HG.out.done v0 v1 (by omega) (by omega)
                obtain ⟨V, hV⟩ : ∃ V : Int, 4294967296 * d + v - c = V := ⟨_, rfl⟩
                have eV : IntKind.u64.wrap (IntKind.u64.wrap (IntKind.u64.wrap (U * 4294967296) + v) - IntKind.u64.wrap (c * 18446744069414584321)) = V := by
                  rw [IntKind.wrap_u64, IntKind.wrap_u64, IntKind.wrap_u64, IntKind.wrap_u64]; omega
                have HE : Hid (V = leftOf hi lo) := by
                  show _ = _
                  have h1' := HD.out
                  have h2' := HLO.out
                  unfold leftOf
                  omega
                have V0 : 0 ≤ V := by omega
                have V1 : V < 18446744073709551616 := by omega
                clear d1 d2 d3 hV HG
                go_wp2_with fail
                go_ret2
                exact ⟨_, by rw [← HE.out]; rfl, Below.refl _ _⟩
end Go.Proofs.YthggdacincfplaaGreatDoor
