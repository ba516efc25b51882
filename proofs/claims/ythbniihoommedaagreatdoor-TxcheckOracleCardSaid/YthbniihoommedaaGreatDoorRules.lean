/- Contracts of the rules' functions: txcheck.Rules, the reference's Rules, both parameter checks, and awake, for all values of the fields; no conditions. -/
import Derived.Test.YthbniihoommedaaGreatDoorProg
import Derived.Test.YthbniihoommedaaGreatDoorKit
import Derived.WalkSpells
import Derived.Deep.RegionHeld3
import Derived.Deep.QuietTactic
import Derived.BigQuiet
import Derived.Deep.RegionLaw
namespace Go.Proofs.YthbniihoommedaaGreatDoor
open Go.ChangeShapes Go.WideShapes Go.ChangeAt Go.RowKit

theorem _root_.Go.RowKit.Below.next {a b c : World} (h1 : Below a.heap.size a b) (h2 : Below b.heap.size b c) : Below a.heap.size a c := h1.trans (h2.mono h1.size)
theorem _root_.Go.RowKit.Below.new {a b : World} (h : Below a.heap.size a b) (o : Obj) : Below a.heap.size a (b.alloc o) := h.alloc h.size o

def paramsB (a b c : Int) : Bool :=
  decide (2 ≤ a ∧ a ≤ 256 ∧ bits BinOp.and IntKind.i64 a (a - 1) = 0 ∧ (b = 1 ∨ b = 2 ∨ b = 4 ∨ b = 8) ∧ 1 ≤ c ∧ c ≤ 64)

set_option maxHeartbeats 400000 in
theorem params_any (a b c : Int) (w : World) :
    Calls Tryz.prog 19 #[.agg #[.int .i64 a, .int .i64 b, .int .i64 c]] w fun e w' => e = .returned (.bool (paramsB a b c)) ∧ Below w.heap.size w w' := by
  go_enter Tryz.func19, Tryz.ntmps19
  go_wp2
  all_goals go_ret
  all_goals refine ⟨ret_bool ?_, (Below.refl _ _).alloc (Nat.le_refl _) _⟩
  all_goals unfold paramsB
  all_goals first
    | exact (decide_eq_true (by omega)).symm
    | exact (decide_eq_false (by omega)).symm
    | exact decide_eq_decide.2 (by omega)

def rulesB (m d bl bu q rew win fin work : Int) : Bool :=
  decide ((1 ≤ m ∧ m ≤ 3 ∧ 1 ≤ d ∧ d ≤ 12 ∧ 1 ≤ win ∧ win ≤ 100 ∧ 1 ≤ fin ∧ fin ≤ 1048576 ∧ rew ≤ 4294967296 ∧ 1 ≤ work ∧ work ≤ 65536) ∧ (m = 1 → paramsB bl bu q = true))
def rulesE (m d bl bu q rew win fin work : Int) : Int := if rulesB m d bl bu q rew win fin work = true then 0 else 1
theorem rulesE_one {m d bl bu q rew win fin work : Int}
    (h : ¬ (1 ≤ m ∧ m ≤ 3 ∧ 1 ≤ d ∧ d ≤ 12 ∧ 1 ≤ win ∧ win ≤ 100 ∧ 1 ≤ fin ∧ fin ≤ 1048576 ∧ rew ≤ 4294967296 ∧ 1 ≤ work ∧ work ≤ 65536)) :
    1 = rulesE m d bl bu q rew win fin work := by
  unfold rulesE rulesB; rw [if_neg (by rw [decide_eq_true_eq]; exact fun g => h g.1)]
theorem rulesE_bad {m d bl bu q rew win fin work : Int} (h1 : m = 1) (h : (!paramsB bl bu q) = true) :
    1 = rulesE m d bl bu q rew win fin work := by
  unfold rulesE rulesB; rw [if_neg (by rw [decide_eq_true_eq]; intro g; have := g.2 h1; simp [this] at h)]
theorem rulesE_zero {m d bl bu q rew win fin work : Int}
    (h : 1 ≤ m ∧ m ≤ 3 ∧ 1 ≤ d ∧ d ≤ 12 ∧ 1 ≤ win ∧ win ≤ 100 ∧ 1 ≤ fin ∧ fin ≤ 1048576 ∧ rew ≤ 4294967296 ∧ 1 ≤ work ∧ work ≤ 65536)
    (h1 : m = 1 → paramsB bl bu q = true) : 0 = rulesE m d bl bu q rew win fin work := by
  unfold rulesE rulesB; rw [if_pos (by rw [decide_eq_true_eq]; exact ⟨h, h1⟩)]

set_option maxHeartbeats 1000000 in
theorem rules_any (m d bl bu q rew win fin work : Int) (w : World) :
    Calls Tryz.prog 12 #[.agg #[.int .i64 m, .int .i64 d, .int .i64 bl, .int .i64 bu, .int .i64 q, .int .u64 rew, .int .i64 win, .int .i64 fin, .int .u64 work]] w fun e w' => e = .returned (.int .i64 (rulesE m d bl bu q rew win fin work)) ∧ Below w.heap.size w w' := by
  go_enter Tryz.func12, Tryz.ntmps12
  go_wp2_with (go_at_call 19; refine (params_any _ _ _ _).mono ?_; rintro e w' ⟨rfl, hb⟩)
  all_goals go_ret
  all_goals refine ⟨ret_int ?_, ?_⟩
  all_goals first
    | exact (Below.refl _ _).alloc (Nat.le_refl _) _
    | exact ((Below.refl _ _).alloc (Nat.le_refl _) _).trans (hb.mono (by simp))
    | exact rulesE_one (by omega)
    | exact rulesE_bad ‹_› ‹_›
    | exact rulesE_zero (by omega) (fun h => by omega)
    | exact rulesE_zero (by omega) (fun h => by simpa using ‹(!paramsB bl bu q) = false›)

/-- The reference's parameters: two loops over powers of two. -/
def pow2B (lo : Int) : Nat → Int → Bool
  | 0, _ => false
  | k + 1, a => pow2B lo k a || (a == lo * 2 ^ k)
theorem pow2B_succ (lo : Int) (k : Nat) (a : Int) : pow2B lo (k + 1) a = (pow2B lo k a || (a == lo * 2 ^ k)) := rfl

def refParamsB (a b c : Int) : Bool := pow2B 2 8 a && pow2B 1 4 b && decide (1 ≤ c) && decide (c ≤ 64)

theorem and_self_small : ∀ n : Fin 257, bits BinOp.and IntKind.i64 (n.val : Int) ((n.val : Int) - 1) = 0 ↔ (n.val = 0 ∨ pow2B 1 9 (n.val : Int) = true) := by
  decide +kernel

theorem pow2B_2 (a : Int) : pow2B 2 8 a = true ↔ a = 2 ∨ a = 4 ∨ a = 8 ∨ a = 16 ∨ a = 32 ∨ a = 64 ∨ a = 128 ∨ a = 256 := by
  simp [pow2B]; omega
theorem pow2B_1 (a : Int) : pow2B 1 9 a = true ↔ a = 1 ∨ a = 2 ∨ a = 4 ∨ a = 8 ∨ a = 16 ∨ a = 32 ∨ a = 64 ∨ a = 128 ∨ a = 256 := by
  simp [pow2B]; omega
theorem pow2B_4 (a : Int) : pow2B 1 4 a = true ↔ a = 1 ∨ a = 2 ∨ a = 4 ∨ a = 8 := by
  simp [pow2B]; omega

theorem params_same (a b c : Int) : paramsB a b c = refParamsB a b c := by
  unfold paramsB refParamsB
  rw [Bool.eq_iff_iff]
  simp only [decide_eq_true_eq, Bool.and_eq_true, pow2B_2, pow2B_4]
  by_cases h : 2 ≤ a ∧ a ≤ 256
  · obtain ⟨n, rfl⟩ := Int.eq_ofNat_of_zero_le (show 0 ≤ a by omega)
    have := and_self_small ⟨n, by omega⟩
    simp only [pow2B_1] at this
    rw [this]
    omega
  · constructor
    · rintro ⟨h1, h2, _⟩; exact absurd ⟨h1, h2⟩ h
    · rintro ⟨⟨⟨h1, _⟩, _⟩, _⟩; omega

theorem pw8 : ∀ k : Fin 9, ((2 * 2 ^ k.val : Int) ≤ 256 ↔ k.val < 8) ∧ 2 ≤ (2 * 2 ^ k.val : Int) ∧ (2 * 2 ^ k.val : Int) ≤ 512 := by decide +kernel
theorem pw4 : ∀ k : Fin 5, ((1 * 2 ^ k.val : Int) ≤ 8 ↔ k.val < 4) ∧ 1 ≤ (1 * 2 ^ k.val : Int) ∧ (1 * 2 ^ k.val : Int) ≤ 16 := by decide +kernel

set_option maxHeartbeats 1000000 in
theorem refParams_any (a b c : Int) (w : World) :
    Calls Tryz.prog 13 #[.agg #[.int .i64 a, .int .i64 b, .int .i64 c]] w fun e w' => e = .returned (.bool (refParamsB a b c)) ∧ Below w.heap.size w w' := by
  go_enter Tryz.func13, Tryz.ntmps13
  go_wp2
  go_loop [3, 5] (fun t i => ∃ (k : Nat) (m : Int), k ≤ 8 ∧ Hid (m = 2 * 2 ^ k) ∧ i = .int .i64 m ∧ t = .bool (pow2B 2 k a)) (fun _ i => (512 - intOf i).toNat)
  case atStart => exact ⟨0, 2, by omega, rfl, rfl, rfl⟩
  case round =>
    obtain ⟨k, m, hk, hm, rfl, rfl⟩ := hrel
    have hp := pw8 ⟨k, by omega⟩
    simp only at hp
    rw [← hm.out] at hp
    obtain ⟨hp1, hp2, hp3⟩ := hp
    have HP := Lib.hid hp1
    clear hp1
    have hs := Lib.hid (pow2B_succ 2 k a)
    have hm2 : Hid (2 * m = 2 * 2 ^ (k + 1)) := by show _ = _; rw [hm.out, Int.pow_succ]; omega
    by_cases hlt : m ≤ 256
    · have hk8 := HP.out.1 hlt
      go_wp2
      all_goals
        go_round
        case rel =>
          refine ⟨k + 1, 2 * m, by omega, hm2, rfl, ?_⟩
          rw [hs.out, ← hm.out]
          simp [*]
        case measure => simp [intOf]; omega
    · have hk8 : k = 8 := by have := HP.out; omega
      subst hk8
      clear HP hm2 hs
      generalize hbl : pow2B 2 8 a = bl
      have HBL := Lib.hid hbl
      clear hbl
      go_wp2
      go_loop [4, 6] (fun t i => ∃ (k : Nat) (m : Int), k ≤ 4 ∧ Hid (m = 1 * 2 ^ k) ∧ i = .int .i64 m ∧ t = .bool (pow2B 1 k b)) (fun _ i => (16 - intOf i).toNat)
      case atStart => exact ⟨0, 1, by omega, rfl, rfl, rfl⟩
      case round =>
        obtain ⟨k, m, hk, hm, rfl, rfl⟩ := hrel
        have hp := pw4 ⟨k, by omega⟩
        simp only at hp
        rw [← hm.out] at hp
        obtain ⟨hp1, hp2, hp3⟩ := hp
        have HP := Lib.hid hp1
        clear hp1
        have hs := Lib.hid (pow2B_succ 1 k b)
        have hm2 : Hid (2 * m = 1 * 2 ^ (k + 1)) := by show _ = _; rw [hm.out, Int.pow_succ]; omega
        by_cases hlt : m ≤ 8
        · have hk8 := HP.out.1 hlt
          go_wp2
          all_goals
            go_round
            case rel =>
              refine ⟨k + 1, 2 * m, by omega, hm2, rfl, ?_⟩
              rw [hs.out, ← hm.out]
              simp [*]
            case measure => simp [intOf]; omega
        · have hk8 : k = 4 := by have := HP.out; omega
          subst hk8
          clear HP hm2 hs
          generalize hbu : pow2B 1 4 b = bu
          have HBU := Lib.hid hbu
          clear hbu
          go_wp2
          all_goals go_ret
          all_goals refine ⟨ret_bool ?_, (Below.refl _ _).alloc (Nat.le_refl _) _⟩
          all_goals unfold refParamsB
          all_goals rw [HBL.out, HBU.out]
          all_goals first
            | (simp [*]; done)
            | (simp [*]; omega)

theorem rulesE_bad2 {m d bl bu q rew win fin work : Int} (h1 : m = 1) (a : rew ≤ 4294967296) (b : 1 ≤ work) (c : work ≤ 65536)
    (h : ((4294967296 < rew ∨ work < 1) ∨ 65536 < work) ∨ (!paramsB bl bu q) = true) : 1 = rulesE m d bl bu q rew win fin work :=
  rulesE_bad h1 (by rcases h with h | h; · exfalso; omega
                    · exact h)
theorem rulesE_zero2 {m d bl bu q rew win fin work : Int}
    (h : 1 ≤ m ∧ m ≤ 3 ∧ 1 ≤ d ∧ d ≤ 12 ∧ 1 ≤ win ∧ win ≤ 100 ∧ 1 ≤ fin ∧ fin ≤ 1048576 ∧ rew ≤ 4294967296 ∧ 1 ≤ work ∧ work ≤ 65536)
    (h1 : ((rew ≤ 4294967296 ∧ 1 ≤ work) ∧ work ≤ 65536) ∧ (!paramsB bl bu q) = false) : 0 = rulesE m d bl bu q rew win fin work :=
  rulesE_zero h (fun _ => by simpa using h1.2)

set_option maxHeartbeats 1000000 in
theorem refRules_any (m d bl bu q rew win fin work : Int) (w : World) :
    Calls Tryz.prog 6 #[.agg #[.int .i64 m, .int .i64 d, .int .i64 bl, .int .i64 bu, .int .i64 q, .int .u64 rew, .int .i64 win, .int .i64 fin, .int .u64 work]] w fun e w' => e = .returned (.int .i64 (rulesE m d bl bu q rew win fin work)) ∧ Below w.heap.size w w' := by
  go_enter Tryz.func6, Tryz.ntmps6
  go_wp2_with (go_at_call 13; refine (refParams_any _ _ _ _).mono ?_; rintro e w' ⟨rfl, hb⟩; rw [← params_same])
  all_goals go_ret
  all_goals refine ⟨ret_int ?_, ?_⟩
  all_goals first
    | exact (Below.refl _ _).alloc (Nat.le_refl _) _
    | exact ((Below.refl _ _).alloc (Nat.le_refl _) _).trans (hb.mono (by simp))
    | exact rulesE_one (by omega)
    | exact rulesE_bad ‹_› ‹_›
    | exact rulesE_zero (by omega) (fun h => by omega)
    | exact rulesE_bad2 ‹_› ‹_› ‹_› ‹_› ‹_›
    | exact rulesE_zero2 (by omega) ‹_›

/-! awake -/
set_option maxHeartbeats 1000000 in
theorem lawRules_any (m : Int) (w : World) :
    Calls Tryz.prog 10 #[.int .i64 m] w fun e w' => e = .returned (.agg #[.int .i64 m, .int .i64 3, .int .i64 8, .int .i64 1, .int .i64 2, .int .u64 0, .int .i64 1, .int .i64 1, .int .u64 1]) ∧ Below w.heap.size w w' := by
  go_enter Tryz.func10, Tryz.ntmps10
  go_wp2
  exact bodyPost_ret (v := .agg #[.int .i64 m, .int .i64 3, .int .i64 8, .int .i64 1, .int .i64 2, .int .u64 0, .int .i64 1, .int .i64 1, .int .u64 1]) (by simp [results, Tryz.results10, go_sem]) rfl ⟨rfl, (Below.refl _ _).alloc (Nat.le_refl _) _⟩

set_option maxHeartbeats 1000000 in
theorem size_any (c0 c1 c7 c8 c9 c10 c11 : Value) (a b d : Option Addr) (l0 k0 l1 k1 l2 k2 : Nat) (w : World) (h : l0 + l1 ≤ 1000) :
    Calls Tryz.prog 11 #[.agg #[c0, c1, .slice a l0 k0, .slice b l1 k1, .slice d l2 k2, c7, c8, c9, c10, c11]] w fun e w' => e = .returned (.int .i64 (64 + 32 * (l0 + l1 : Nat))) ∧ Below w.heap.size w w' := by
  go_enter Tryz.func11, Tryz.ntmps11
  go_wp2
  go_ret
  exact ⟨ret_int (by omega), (Below.refl _ _).alloc (Nat.le_refl _) _⟩

theorem rules_ok (w : World) : Calls Tryz.prog 12 #[.agg #[.int .i64 2, .int .i64 3, .int .i64 8, .int .i64 1, .int .i64 2, .int .u64 0, .int .i64 1, .int .i64 1, .int .u64 1]] w fun e w' => e = .returned (.int .i64 0) ∧ Below w.heap.size w w' :=
  (rules_any 2 3 8 1 2 0 1 1 1 w).mono fun e w' h => ⟨h.1.trans (ret_int (by decide +kernel)), h.2⟩
theorem rules_bad (w : World) : Calls Tryz.prog 12 #[.agg #[.int .i64 2, .int .i64 3, .int .i64 8, .int .i64 1, .int .i64 2, .int .u64 0, .int .i64 0, .int .i64 1, .int .u64 1]] w fun e w' => e = .returned (.int .i64 1) ∧ Below w.heap.size w w' :=
  (rules_any 2 3 8 1 2 0 0 1 1 w).mono fun e w' h => ⟨h.1.trans (ret_int (by decide +kernel)), h.2⟩


set_option maxHeartbeats 1000000 in
theorem awake_any (w : World) :
    Calls Tryz.prog 4 #[] w fun e w' => e = .returned (.bool true) ∧ Below w.heap.size w w' := by
  go_enter Tryz.func4, Tryz.ntmps4
  go_wp2_with fail
  refine (lawRules_any _ _).mono ?_
  rintro e w1 ⟨rfl, hb1⟩
  go_wp2_with fail
  refine (size_any _ _ _ _ _ _ _ _ _ _ _ _ _ _ _ _ _ (by omega)).mono ?_
  rintro e w2 ⟨rfl, hb2⟩
  obtain ⟨hc, hf⟩ := bcell hb2
  go_wp2_with fail
  refine (rules_ok _).mono ?_
  rintro e w3 ⟨rfl, hb3⟩
  obtain ⟨hc3, hf3⟩ := bcell hb3
  have hz3 := hb2.size
  simp at hz3
  have hz4 : w1.heap.size + 1 < w2.heap.size := by omega
  go_wp2_with fail
  refine (rules_bad _).mono ?_
  rintro e w4 ⟨rfl, hb4⟩
  go_wp2_with fail
  go_ret
  refine ⟨rfl, ?_⟩
  exact ((((((hb1.new _).new _).new _).new _).next hb2).next hb3).next hb4
end Go.Proofs.YthbniihoommedaaGreatDoor
