/- Contracts of the rules' functions: txcheck.Rules, the reference's Rules, both parameter checks, and awake, for all values of the fields; no conditions. -/
import Derived.Test.YthggdacincfplaaGreatDoorProg
import Derived.Test.YthggdacincfplaaGreatDoorKit
import Derived.WalkSpells
import Derived.Deep.RegionHeld3
import Derived.Deep.QuietTactic
import Derived.BigQuiet
import Derived.Deep.RegionLaw
namespace Go.Proofs.YthggdacincfplaaGreatDoor
open Go.ChangeShapes Go.WideShapes Go.ChangeAt Go.RowKit

theorem _root_.Go.RowKit.Below.next {a b c : World} (h1 : Below a.heap.size a b) (h2 : Below b.heap.size b c) : Below a.heap.size a c := h1.trans (h2.mono h1.size)
theorem _root_.Go.RowKit.Below.new {a b : World} (h : Below a.heap.size a b) (o : Obj) : Below a.heap.size a (b.alloc o) := h.alloc h.size o

def paramsB (a b c : Int) : Bool :=
  decide (2 ≤ a ∧ a ≤ 256 ∧ bits BinOp.and IntKind.i64 a (a - 1) = 0 ∧ (b = 1 ∨ b = 2 ∨ b = 4 ∨ b = 8) ∧ 1 ≤ c ∧ c ≤ 64)

set_option maxHeartbeats 400000 in
theorem params_any (a b c : Int) (w : World) :
    Calls Tryz.prog 16 #[.agg #[.int .i64 a, .int .i64 b, .int .i64 c]] w fun e w' => e = .returned (.bool (paramsB a b c)) ∧ Below w.heap.size w w' := by
  go_enter Tryz.func16, Tryz.ntmps16
  go_wp2
  all_goals go_ret
  all_goals refine ⟨ret_bool ?_, (Below.refl _ _).alloc (Nat.le_refl _) _⟩
  all_goals unfold paramsB
  all_goals first
    | exact (decide_eq_true (by omega)).symm
    | exact (decide_eq_false (by omega)).symm
    | exact decide_eq_decide.2 (by omega)

def rulesB (m d bl bu q rew win fin work : Int) : Bool :=
  decide ((1 ≤ m ∧ m ≤ 3 ∧ 1 ≤ d ∧ d ≤ 12 ∧ 1 ≤ win ∧ win ≤ 100 ∧ 1 ≤ fin ∧ fin ≤ 1048576 ∧ rew ≤ 4294967296 ∧ 1 ≤ work ∧ work ≤ 65536) ∧ (m = 1 → paramsB bl bu q = true))
def rulesE (m d bl bu q rew win fin work : Int) : Int := if rulesB m d bl bu q rew win fin work = true then 0 else 1
theorem rulesE_one {m d bl bu q rew win fin work : Int}
    (h : ¬ (1 ≤ m ∧ m ≤ 3 ∧ 1 ≤ d ∧ d ≤ 12 ∧ 1 ≤ win ∧ win ≤ 100 ∧ 1 ≤ fin ∧ fin ≤ 1048576 ∧ rew ≤ 4294967296 ∧ 1 ≤ work ∧ work ≤ 65536)) :
    1 = rulesE m d bl bu q rew win fin work := by
  unfold rulesE rulesB; rw [if_neg (by rw [decide_eq_true_eq]; exact fun g => h g.1)]
theorem rulesE_bad {m d bl bu q rew win fin work : Int} (h1 : m = 1) (h : (!paramsB bl bu q) = true) :
    1 = rulesE m d bl bu q rew win fin work := by
  unfold rulesE rulesB; rw [if_neg (by rw [decide_eq_true_eq]; intro g; have := g.2 h1; simp [this] at h)]
theorem rulesE_zero {m d bl bu q rew win fin work : Int}
    (h : 1 ≤ m ∧ m ≤ 3 ∧ 1 ≤ d ∧ d ≤ 12 ∧ 1 ≤ win ∧ win ≤ 100 ∧ 1 ≤ fin ∧ fin ≤ 1048576 ∧ rew ≤ 4294967296 ∧ 1 ≤ work ∧ work ≤ 65536)
    (h1 : m = 1 → paramsB bl bu q = true) : 0 = rulesE m d bl bu q rew win fin work := by
  unfold rulesE rulesB; rw [if_pos (by rw [decide_eq_true_eq]; exact ⟨h, h1⟩)]

set_option maxHeartbeats 1000000 in
theorem rules_any (m d bl bu q rew win fin work : Int) (w : World) :
    Calls Tryz.prog 10 #[.agg #[.int .i64 m, .int .i64 d, .int .i64 bl, .int .i64 bu, .int .i64 q, .int .u64 rew, .int .i64 win, .int .i64 fin, .int .u64 work]] w fun e w' => e = .returned (.int .i64 (rulesE m d bl bu q rew win fin work)) ∧ Below w.heap.size w w' := by
  go_enter Tryz.func10, Tryz.ntmps10
  go_wp2_with (go_at_call 16; refine (params_any _ _ _ _).mono ?_; rintro e w' ⟨rfl, hb⟩)
  all_goals go_ret
  all_goals refine ⟨ret_int ?_, ?_⟩
  all_goals first
    | exact (Below.refl _ _).alloc (Nat.le_refl _) _
    | exact ((Below.refl _ _).alloc (Nat.le_refl _) _).trans (hb.mono (by simp))
    | exact rulesE_one (by omega)
    | exact rulesE_bad ‹_› ‹_›
    | exact rulesE_zero (by omega) (fun h => by omega)
    | exact rulesE_zero (by omega) (fun h => by simpa using ‹(!paramsB bl bu q) = false›)

/-! awake -/
set_option maxHeartbeats 1000000 in
theorem lawRules_any (m : Int) (w : World) :
    Calls Tryz.prog 8 #[.int .i64 m] w fun e w' => e = .returned (.agg #[.int .i64 m, .int .i64 3, .int .i64 8, .int .i64 1, .int .i64 2, .int .u64 0, .int .i64 1, .int .i64 1, .int .u64 1]) ∧ Below w.heap.size w w' := by
  go_enter Tryz.func8, Tryz.ntmps8
  go_wp2
  exact bodyPost_ret (v := .agg #[.int .i64 m, .int .i64 3, .int .i64 8, .int .i64 1, .int .i64 2, .int .u64 0, .int .i64 1, .int .i64 1, .int .u64 1]) (by simp [results, Tryz.results8, go_sem]) rfl ⟨rfl, (Below.refl _ _).alloc (Nat.le_refl _) _⟩

set_option maxHeartbeats 1000000 in
theorem size_any (c0 c1 c7 c8 c9 c10 c11 : Value) (a b d : Option Addr) (l0 k0 l1 k1 l2 k2 : Nat) (w : World) (h : l0 + l1 ≤ 1000) :
    Calls Tryz.prog 9 #[.agg #[c0, c1, .slice a l0 k0, .slice b l1 k1, .slice d l2 k2, c7, c8, c9, c10, c11]] w fun e w' => e = .returned (.int .i64 (64 + 32 * (l0 + l1 : Nat))) ∧ Below w.heap.size w w' := by
  go_enter Tryz.func9, Tryz.ntmps9
  go_wp2
  go_ret
  exact ⟨ret_int (by omega), (Below.refl _ _).alloc (Nat.le_refl _) _⟩

theorem rules_ok (w : World) : Calls Tryz.prog 10 #[.agg #[.int .i64 2, .int .i64 3, .int .i64 8, .int .i64 1, .int .i64 2, .int .u64 0, .int .i64 1, .int .i64 1, .int .u64 1]] w fun e w' => e = .returned (.int .i64 0) ∧ Below w.heap.size w w' :=
  (rules_any 2 3 8 1 2 0 1 1 1 w).mono fun e w' h => ⟨h.1.trans (ret_int (by decide +kernel)), h.2⟩
theorem rules_bad (w : World) : Calls Tryz.prog 10 #[.agg #[.int .i64 2, .int .i64 3, .int .i64 8, .int .i64 1, .int .i64 2, .int .u64 0, .int .i64 0, .int .i64 1, .int .u64 1]] w fun e w' => e = .returned (.int .i64 1) ∧ Below w.heap.size w w' :=
  (rules_any 2 3 8 1 2 0 0 1 1 w).mono fun e w' h => ⟨h.1.trans (ret_int (by decide +kernel)), h.2⟩


set_option maxHeartbeats 1000000 in
theorem awake_any (w : World) :
    Calls Tryz.prog 4 #[] w fun e w' => e = .returned (.bool true) ∧ Below w.heap.size w w' := by
  go_enter Tryz.func4, Tryz.ntmps4
  go_wp2_with fail
  refine (lawRules_any _ _).mono ?_
  rintro e w1 ⟨rfl, hb1⟩
  go_wp2_with fail
  refine (size_any _ _ _ _ _ _ _ _ _ _ _ _ _ _ _ _ _ (by omega)).mono ?_
  rintro e w2 ⟨rfl, hb2⟩
  obtain ⟨hc, hf⟩ := bcell hb2
  go_wp2_with fail
  refine (rules_ok _).mono ?_
  rintro e w3 ⟨rfl, hb3⟩
  obtain ⟨hc3, hf3⟩ := bcell hb3
  have hz3 := hb2.size
  simp at hz3
  have hz4 : w1.heap.size + 1 < w2.heap.size := by omega
  go_wp2_with fail
  refine (rules_bad _).mono ?_
  rintro e w4 ⟨rfl, hb4⟩
  go_wp2_with fail
  go_ret
  refine ⟨rfl, ?_⟩
  exact ((((((hb1.new _).new _).new _).new _).next hb2).next hb3).next hb4
end Go.Proofs.YthggdacincfplaaGreatDoor
