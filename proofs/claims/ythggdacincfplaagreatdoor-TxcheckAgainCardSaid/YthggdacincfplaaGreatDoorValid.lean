/- The tests of numbers, notes and transactions. -/
import Derived.Test.YthggdacincfplaaGreatDoorSpec
import Derived.Test.YthggdacincfplaaGreatDoorKitI
import Derived.Test.YthggdacincfplaaGreatDoorWire
namespace Go.Proofs.YthggdacincfplaaGreatDoor
open Go.ChangeShapes Go.WideShapes Go.ChangeAt Go.RowKit

/-- The first places all pass. -/
def allUp (p : Nat → Bool) : Nat → Bool
  | 0 => true
  | k + 1 => allUp p k && p k
theorem allUp_false {p : Nat → Bool} {k : Nat} (hp : p k = false) : ∀ {n : Nat}, k < n → allUp p n = false
  | 0, h => absurd h (Nat.not_lt_zero _)
  | n + 1, h => by
    unfold allUp
    rcases Nat.lt_or_ge k n with h1 | h1
    · rw [allUp_false hp h1]; rfl
    · obtain rfl : k = n := by omega
      rw [hp, Bool.and_false]
theorem allUp_step {p : Nat → Bool} {k : Nat} (h : allUp p k = true) (hp : p k = true) : allUp p (k + 1) = true := by
  unfold allUp; rw [h, hp]; rfl
def elemB (n : Int) : Bool := decide (n < 18446744069414584321)
def elemsB (l : List Int) : Bool := allUp (fun k => elemB (l.getD k 0)) l.length
theorem getD_at {α : Type} (l : List α) (d : α) (k : Nat) (h : k < l.length) : l.getD k d = l[k] := by simp [h]
/-- A literal list of words. -/
theorem nums_new (w : World) (t : TypeId) (l : List Int) (cap : Nat) (hl : ∀ x ∈ l, okU x) (hc : l.length ≤ cap) (hm : cap ≤ maxLen) : numsR.rel (fun _ => True) (w.alloc (.cells (l.map (Value.int .u64)).toArray t)) [.slice (some ⟨w.heap.size, 0, none⟩) l.length cap] l := by
  refine ⟨_, _, _, rfl, rfl, hc, hm, (fun h => by cases h), fun i x hx => ⟨w.heap.size, 0, [.int .u64 x], rfl, trivial, ⟨rfl, hl x (List.mem_of_getElem? hx)⟩, fun j c hj => ?_, by simp⟩⟩
  have hb := (box_cells (box_new w (.cells (l.map (Value.int .u64)).toArray t))).1
  rw [hb]
  match j, hj with
  | 0, hj =>
    simp at hj
    subst hj
    simp [intR, hx]

set_option maxHeartbeats 1000000 in
theorem elements_any (S : Nat → Prop) (w : World) (a : Option Addr) (cap : Nat) (l : List Int) (h : numsR.rel S w [.slice a l.length cap] l) :
    Calls Tryz.prog 92 #[.slice a l.length cap] w fun e w' => e = .returned (.bool (elemsB l)) ∧ Below w.heap.size w w' := by
  have g1 := (sliceR.lens h).2
  unfold maxLen at g1
  have H := Lib.hid h
  clear h
  go_enter Tryz.func92, Tryz.ntmps92
  go_wp2_with fail
  go_loop [7] (fun i => ∃ k : Nat, k ≤ l.length ∧ i = .int .i64 k ∧ Hid (allUp (fun k => elemB (l.getD k 0)) k = true)) (fun i => l.length - (intOf i).toNat)
  case atStart => exact ⟨0, Nat.zero_le _, rfl, rfl⟩
  case round =>
    obtain ⟨k, hk, rfl, hall⟩ := hrel
    by_cases hlt : k < l.length
    · obtain ⟨b, off, rfl, hbl, n0, n1, hc⟩ := nums_at H.out k hlt
      have hg := Lib.hid (getD_at l 0 k hlt)
      generalize l[k] = n at *
      by_cases hp : n < 18446744069414584321
      · have HY : Hid (allUp (fun k => elemB (l.getD k 0)) (k + 1) = true) := allUp_step hall.out (by rw [hg.out]; exact decide_eq_true hp)
        go_wp2_with fail
        go_round
        case rel => exact ⟨k + 1, by omega, by go_num, HY⟩
        case measure => simp [intOf]; omega
      · have HF : Hid (elemsB l = false) := allUp_false (k := k) (by rw [hg.out]; exact decide_eq_false hp) hlt
        go_wp2_with fail
        go_ret
        exact ⟨ret_bool HF.out.symm, Below.refl _ _⟩
    · obtain rfl : k = l.length := by omega
      have HF : Hid (elemsB l = true) := hall
      go_wp2_with fail
      go_ret
      exact ⟨ret_bool HF.out.symm, Below.refl _ _⟩
set_option maxHeartbeats 1000000 in
theorem oelements_any (S : Nat → Prop) (w : World) (a : Option Addr) (cap : Nat) (l : List Int) (h : numsR.rel S w [.slice a l.length cap] l) :
    Calls Tryz.prog 164 #[.slice a l.length cap] w fun e w' => e = .returned (.bool (elemsB l)) ∧ Below w.heap.size w w' := by
  have g1 := (sliceR.lens h).2
  unfold maxLen at g1
  have H := Lib.hid h
  clear h
  go_enter Tryz.func164, Tryz.ntmps164
  go_wp2_with fail
  go_loop [7] (fun i => ∃ k : Nat, k ≤ l.length ∧ i = .int .i64 k ∧ Hid (allUp (fun k => elemB (l.getD k 0)) k = true)) (fun i => l.length - (intOf i).toNat)
  case atStart => exact ⟨0, Nat.zero_le _, rfl, rfl⟩
  case round =>
    obtain ⟨k, hk, rfl, hall⟩ := hrel
    by_cases hlt : k < l.length
    · obtain ⟨b, off, rfl, hbl, n0, n1, hc⟩ := nums_at H.out k hlt
      have hg := Lib.hid (getD_at l 0 k hlt)
      generalize l[k] = n at *
      by_cases hp : n < 18446744069414584321
      · have HY : Hid (allUp (fun k => elemB (l.getD k 0)) (k + 1) = true) := allUp_step hall.out (by rw [hg.out]; exact decide_eq_true hp)
        go_wp2_with fail
        go_round
        case rel => exact ⟨k + 1, by omega, by go_num, HY⟩
        case measure => simp [intOf]; omega
      · have HF : Hid (elemsB l = false) := allUp_false (k := k) (by rw [hg.out]; exact decide_eq_false hp) hlt
        go_wp2_with fail
        go_ret
        exact ⟨ret_bool HF.out.symm, Below.refl _ _⟩
    · obtain rfl : k = l.length := by omega
      have HF : Hid (elemsB l = true) := hall
      go_wp2_with fail
      go_ret
      exact ⟨ret_bool HF.out.symm, Below.refl _ _⟩

def noteB (n : NoteM) : Bool := decide (n.value ≤ 4294967295 ∧ n.owner < 18446744069414584321 ∧ n.rho < 18446744069414584321 ∧ n.blind < 18446744069414584321)
set_option maxHeartbeats 1000000 in
theorem noteValid_any (w : World) (n : NoteM) : Calls Tryz.prog 98 #[.agg #[.int .u64 n.value, .int .u64 n.owner, .int .u64 n.rho, .int .u64 n.blind]] w fun e w' => e = .returned (.bool (noteB n)) ∧ Below w.heap.size w w' := by
  go_enter Tryz.func98, Tryz.ntmps98
  go_wp2_with fail
  all_goals go_ret
  all_goals refine ⟨ret_bool ?_, (Below.refl _ _).alloc (Nat.le_refl _) _⟩
  all_goals unfold noteB
  all_goals first
    | exact (decide_eq_true (by omega)).symm
    | exact (decide_eq_false (by omega)).symm
    | exact decide_eq_decide.2 (by omega)
def groupB (x y : Int) : Bool := decide (x < 18446744069414584321 ∧ y < 18446744069414584321 ∧ (x ≠ 0 ∨ y ≠ 0))
set_option maxHeartbeats 1000000 in
theorem groupValid_any (w : World) (x y : Int) : Calls Tryz.prog 32 #[.agg #[.int .u64 x, .int .u64 y]] w fun e w' => e = .returned (.bool (groupB x y)) ∧ Below w.heap.size w w' := by
  go_enter Tryz.func32, Tryz.ntmps32
  go_wp2_with fail
  all_goals go_ret
  all_goals refine ⟨ret_bool ?_, (Below.refl _ _).alloc (Nat.le_refl _) _⟩
  all_goals unfold groupB
  all_goals first
    | exact (decide_eq_true (by omega)).symm
    | exact (decide_eq_false (by omega)).symm
    | exact decide_eq_decide.2 (by omega)
    | (rw [Bool.eq_iff_iff]; simp; omega)

def amountsB (t : TxM) : Bool :=
  decide ((t.dep ≤ 4294967295 ∧ t.wd ≤ 4294967295 ∧ t.fee ≤ 4294967295) ∧ (t.acc < 18446744069414584321 ∧ t.nonce < 18446744069414584321) ∧ (0 < t.dep → t.wd = 0) ∧ (¬ 0 < t.dep → (t.marks.length ≠ 0 ∧ t.nonce = 0) ∧ (0 < t.wd ∨ t.acc = 0)))
set_option maxHeartbeats 2000000 in
theorem amounts_any (S : Nat → Prop) (w : World) (t : TxM) (ma oa pa : Option Addr) (mc oc pc : Nat) (h : TxIn S w t ma oa pa mc oc pc) :
    Calls Tryz.prog 19 #[.agg #[.int .u64 t.anchor, .slice ma t.marks.length mc, .slice oa t.outs.length oc, .int .u64 t.dep, .int .u64 t.wd, .int .u64 t.fee, .int .u64 t.acc, .int .u64 t.nonce, .int .i64 t.exp, .slice pa t.proof.length pc]] w fun e w' => e = .returned (.bool (amountsB t)) ∧ Below w.heap.size w w' := by
  have d1 := okU_in h.dep
  have d2 := okU_in h.wd
  have d3 := okU_in h.acc
  have d4 := okU_in h.nonce
  clear h
  unfold amountsB
  generalize t.marks.length = ml
  go_enter Tryz.func19, Tryz.ntmps19
  go_wp2_with fail
  all_goals go_ret
  all_goals refine ⟨ret_bool ?_, (Below.refl _ _).alloc (Nat.le_refl _) _⟩
  all_goals first
    | exact (decide_eq_true (by omega)).symm
    | exact (decide_eq_false (by omega)).symm
    | exact decide_eq_decide.2 (by omega)
    | (rw [Bool.eq_iff_iff]; simp; omega)
    | (simp only [beq_iff_eq, bne_iff_ne, beq_eq_false_iff_ne, bne_eq_false_iff_eq, ne_eq] at * <;> first | exact (decide_eq_true (by omega)).symm | exact (decide_eq_false (by omega)).symm | (rw [Bool.eq_iff_iff]; simp; done) | (rw [Bool.eq_iff_iff]; simp; omega))
end Go.Proofs.YthggdacincfplaaGreatDoor
