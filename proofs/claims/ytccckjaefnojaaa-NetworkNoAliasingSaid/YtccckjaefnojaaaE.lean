/- slices.Delete at messages; Take, Drop. -/
import Derived.Test.YtccckjaefnojaaaD
import Derived.Test.YtccckjaefnojaaaKitR
namespace Go.Proofs.Ytccckjaefnojaaa
open Go.ChangeShapes Go.WideShapes Go.ChangeAt Go.RowKit

theorem Try.zero24 (w : World) : (zeroValue 24).run Try.prog w = .ok (.agg #[.int .i64 0, .int .i64 0, .int .i64 0, .slice none 0 0]) w := by kernel_rfl
theorem zero24_one (m : Nat) : ∀ u ∈ (Builtin.zeroCells (Value.agg #[.int .i64 0, .int .i64 0, .int .i64 0, .slice none 0 0]).cells m).toList, u.oneCell' = true := by
  intro u hu
  simp [Builtin.zeroCells, Value.cells] at hu
  obtain ⟨j, hj, rfl⟩ := hu
  have h4 : j % 4 < 4 := Nat.mod_lt _ (by omega)
  generalize j % 4 = i at h4
  match i, h4 with
  | 0, _ => rfl
  | 1, _ => rfl
  | 2, _ => rfl
  | 3, _ => rfl

/-- A delete: the row at g has lost element k; nothing else has changed. -/
def Cut1 (S : Nat → Prop) (g cap : Nat) (ys : List Msg) (w : World) (e : Ending) (w' : World) : Prop :=
  e = .returned (.slice (some ⟨g, 0, none⟩) ys.length cap) ∧ Row msgR 24 S w' g cap ys ∧ Kept (fun x => x ≠ g) w w'

set_option maxRecDepth 100000 in
set_option maxHeartbeats 1000000 in
theorem delete_end (S : Nat → Prop) (w : World) (g cap : Nat) (ms : List Msg) (k : Nat) (hk : k < ms.length) (hr : Row msgR 24 S w g cap ms) (hc : cap ≤ maxLen) (hkc : k + 1 = cap) :
    Calls Try.prog 31 #[.slice (some ⟨g, 0, none⟩) ms.length cap, .int .i64 k, .int .i64 (k + 1 : Nat)] w (Cut1 S g cap (ms.eraseIdx k) w) := by
  have hcap : ms.length ≤ cap := by obtain ⟨_, _, _, _, _, _, _, h, _⟩ := hr; exact h
  unfold maxLen at hc
  have hne : ((k : Int) == (k + 1 : Nat)) = false := by simp; omega
  have HEL := Lib.hid (eraseIdx_len ms k hk)
  have k1 : (0 : Int) ≤ (k : Int) := by omega
  have k2 : (k : Int) ≤ (cap : Int) := by omega
  have k3 : (0 : Int) ≤ (k + 1 : Nat) := by omega
  have k4 : ((k + 1 : Nat) : Int) ≤ (ms.length : Int) := by omega
  have k5 : (k : Int) ≤ (k : Int) + 1 := by omega
  have k6 : (0 : Int) ≤ (k : Int) + 1 := by omega
  have k7 : (k : Int) + 1 ≤ (ms.length : Int) := by omega
  subst hkc
  obtain ⟨w1, hap, hr1, hk1⟩ := run_delete_append Try.ety30 (hr.keep (Kept.refl _ _).drew) k hk ⟨g, 0, none⟩ 0 (fun h => by first | rfl | omega)
  obtain ⟨w2, hcl, hr2, hk2⟩ := run_clear_row Try.underlying30 Try.zero24 rfl zero24_one hr1 (ms.length - 1) (ms.length - (ms.length - 1)) (by omega) (by rw [HEL.out]; omega) ⟨g, (ms.length - 1) * 4, none⟩ (fun _ => rfl)
  have hkk : Kept (fun x => x ≠ g) w w2 := ((Kept.refl _ _).drew.trans hk1 fun _ _ h => h).trans hk2 fun _ _ h => h
  rw [show ms.length - (k + 1) = 0 by omega] at hap
  have HAP := Lib.hid hap
  clear hap hr hr1 hk1 hk2
  go_enter Try.func31, Try.ntmps31
  go_wp2_with fail
  go_region_law (first
    | (refine step_append_eq (v := .slice (some ⟨g, 0, none⟩) k (k + 1)) (u := .slice (some ⟨g, 0, none⟩) 0 0) rfl _ _ rfl rfl rfl HAP.out ?_))
  have q1 : (0 : Int) ≤ ((ms.length - 1 : Nat) : Int) := by omega
  have q2 : ((ms.length - 1 : Nat) : Int) ≤ (ms.length : Int) := by omega
  have q3 : (ms.length : Int) ≤ ((k + 1) : Nat) := by omega
  have q4 : ¬ (k + 1) = ms.length - 1 := by omega
  go_wp2_with fail
  go_ret
  exact ⟨by rw [HEL.out]; rfl, hr2, hkk⟩

set_option maxRecDepth 100000 in
set_option maxHeartbeats 1000000 in
theorem delete_mid (S : Nat → Prop) (w : World) (g cap : Nat) (ms : List Msg) (k : Nat) (hk : k < ms.length) (hr : Row msgR 24 S w g cap ms) (hc : cap ≤ maxLen) (hkc : ¬ cap = k + 1) :
    Calls Try.prog 31 #[.slice (some ⟨g, 0, none⟩) ms.length cap, .int .i64 k, .int .i64 (k + 1 : Nat)] w (Cut1 S g cap (ms.eraseIdx k) w) := by
  have hcap : ms.length ≤ cap := by obtain ⟨_, _, _, _, _, _, _, h, _⟩ := hr; exact h
  unfold maxLen at hc
  have hne : ((k : Int) == (k + 1 : Nat)) = false := by simp; omega
  have HEL := Lib.hid (eraseIdx_len ms k hk)
  have k1 : (0 : Int) ≤ (k : Int) := by omega
  have k2 : (k : Int) ≤ (cap : Int) := by omega
  have k3 : (0 : Int) ≤ (k + 1 : Nat) := by omega
  have k4 : ((k + 1 : Nat) : Int) ≤ (ms.length : Int) := by omega
  have k5 : (k : Int) ≤ (k : Int) + 1 := by omega
  have k6 : (0 : Int) ≤ (k : Int) + 1 := by omega
  have k7 : (k : Int) + 1 ≤ (ms.length : Int) := by omega
  obtain ⟨w1, hap, hr1, hk1⟩ := run_delete_append Try.ety30 (hr.keep (Kept.refl _ _).drew) k hk ⟨g, (k + 1) * 4, none⟩ (cap - (k + 1)) (fun h => by first | rfl | omega)
  obtain ⟨w2, hcl, hr2, hk2⟩ := run_clear_row Try.underlying30 Try.zero24 rfl zero24_one hr1 (ms.length - 1) (ms.length - (ms.length - 1)) (by omega) (by rw [HEL.out]; omega) ⟨g, (ms.length - 1) * 4, none⟩ (fun _ => rfl)
  have hkk : Kept (fun x => x ≠ g) w w2 := ((Kept.refl _ _).drew.trans hk1 fun _ _ h => h).trans hk2 fun _ _ h => h
  skip
  have HAP := Lib.hid hap
  clear hap hr hr1 hk1 hk2
  go_enter Try.func31, Try.ntmps31
  go_wp2_with fail
  go_region_law (first
    | (refine step_append_eq (v := .slice (some ⟨g, 0, none⟩) k cap) (u := .slice (some ⟨g, (k + 1) * 4, none⟩) (ms.length - (k + 1)) (cap - (k + 1))) rfl _ _ rfl rfl rfl HAP.out ?_))
  have q1 : (0 : Int) ≤ ((ms.length - 1 : Nat) : Int) := by omega
  have q2 : ((ms.length - 1 : Nat) : Int) ≤ (ms.length : Int) := by omega
  have q3 : (ms.length : Int) ≤ (cap : Nat) := by omega
  have q4 : ¬ cap = ms.length - 1 := by omega
  go_wp2_with fail
  go_ret
  exact ⟨by rw [HEL.out]; rfl, hr2, hkk⟩

theorem delete_any (S : Nat → Prop) (w : World) (g cap : Nat) (ms : List Msg) (k : Nat) (hk : k < ms.length) (hr : Row msgR 24 S w g cap ms) (hc : cap ≤ maxLen) :
    Calls Try.prog 31 #[.slice (some ⟨g, 0, none⟩) ms.length cap, .int .i64 k, .int .i64 (k + 1 : Nat)] w (Cut1 S g cap (ms.eraseIdx k) w) := by
  by_cases h : k + 1 = cap
  · exact delete_end S w g cap ms k hk hr hc h
  · exact delete_mid S w g cap ms k hk hr hc (fun e => h e.symm)
end Go.Proofs.Ytccckjaefnojaaa
