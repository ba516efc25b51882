/- Transactions: what is well-formed. -/
import Derived.Test.YthggdacincfplaaGreatDoorValid
namespace Go.Proofs.YthggdacincfplaaGreatDoor
open Go.ChangeShapes Go.WideShapes Go.ChangeAt Go.RowKit

/-- A slice cut short reads as the first elements. -/
theorem slice_take {α : Type} {r : Rep α} {S : Nat → Prop} {w : World} {a : Option Addr} {len cap : Nat} {l : List α} (h : (sliceR r).rel S w [.slice a len cap] l) (k : Nat) (hk : k ≤ l.length) : (sliceR r).rel S w [.slice a k cap] (l.take k) := by
  obtain ⟨a', len', cap', hv, h1, h2, h3, h4, h5⟩ := h
  simp at hv
  obtain ⟨rfl, rfl, rfl⟩ := hv
  refine ⟨a, k, cap, rfl, by simp [hk], by omega, h3, h4, fun i x hx => h5 i x ?_⟩
  rw [List.getElem?_take] at hx
  split at hx
  · exact hx
  · simp at hx
/-- Is x among the first k? -/
def hasUp (l : List Int) (x : Int) : Nat → Bool
  | 0 => false
  | k + 1 => hasUp l x k || (x == l.getD k 0)
theorem hasUp_true {l : List Int} {x : Int} {k : Nat} (hx : (x == l.getD k 0) = true) : ∀ {n : Nat}, k < n → hasUp l x n = true
  | 0, h => absurd h (Nat.not_lt_zero _)
  | n + 1, h => by
    unfold hasUp
    rcases Nat.lt_or_ge k n with h1 | h1
    · rw [hasUp_true hx h1]; rfl
    · obtain rfl : k = n := by omega
      rw [hx, Bool.or_true]
theorem hasUp_take {l : List Int} {x : Int} {k : Nat} (hk : k ≤ l.length) : ∀ n, n ≤ k → hasUp (l.take k) x n = hasUp l x n
  | 0, _ => rfl
  | n + 1, h => by
    unfold hasUp
    rw [hasUp_take hk n (by omega), getD_at (l.take k) 0 n (by simp; omega), getD_at l 0 n (by omega)]
    simp
def hasB (l : List Int) (x : Int) : Bool := hasUp l x l.length
theorem hasB_take (l : List Int) (x : Int) (k : Nat) (hk : k ≤ l.length) : hasB (l.take k) x = hasUp l x k := by
  unfold hasB
  rw [List.length_take, Nat.min_eq_left hk]
  exact hasUp_take hk k (Nat.le_refl _)

set_option maxHeartbeats 1000000 in
theorem index_any (S : Nat → Prop) (w : World) (a : Option Addr) (cap : Nat) (l : List Int) (h : numsR.rel S w [.slice a l.length cap] l) (x : Int) :
    Calls Tryz.prog 57 #[.slice a l.length cap, .int .u64 x] w fun e w' => (∃ i : Int, e = .returned (.int .i64 i) ∧ (0 ≤ i ↔ hasB l x = true)) ∧ Below w.heap.size w w' := by
  have g1 := (sliceR.lens h).2
  unfold maxLen at g1
  have H := Lib.hid h
  clear h
  go_enter Tryz.func57, Tryz.ntmps57
  go_wp2_with fail
  go_loop [8] (fun i => ∃ k : Nat, k ≤ l.length ∧ i = .int .i64 k ∧ Hid (hasUp l x k = false)) (fun i => l.length - (intOf i).toNat)
  case atStart => exact ⟨0, Nat.zero_le _, rfl, rfl⟩
  case round =>
    obtain ⟨k, hk, rfl, hall⟩ := hrel
    by_cases hlt : k < l.length
    · obtain ⟨b, off, rfl, hbl, n0, n1, hc⟩ := nums_at H.out k hlt
      have hg := Lib.hid (getD_at l 0 k hlt)
      generalize l[k] = n at *
      by_cases hp : x = n
      · have hpb : (x == n) = true := by simp [hp]
        have HF : Hid (hasB l x = true) := hasUp_true (k := k) (by rw [hg.out]; exact hpb) hlt
        subst hp
        go_wp2_with fail
        go_ret
        exact ⟨⟨_, rfl, fun _ => HF.out, fun _ => by omega⟩, Below.refl _ _⟩
      · have hpb : (x == n) = false := by simp [hp]
        have HY : Hid (hasUp l x (k + 1) = false) := by show _ = _; unfold hasUp; rw [hg.out, hall.out, hpb]; rfl
        go_wp2_with fail
        go_round
        case rel => exact ⟨k + 1, by omega, by go_num, HY⟩
        case measure => simp [intOf]; omega
    · obtain rfl : k = l.length := by omega
      have HF : Hid (hasB l x = false) := hall
      go_wp2_with fail
      go_ret
      exact ⟨⟨-1, rfl, fun h => by omega, fun h => by rw [HF.out] at h; cases h⟩, Below.refl _ _⟩
theorem contains_any (S : Nat → Prop) (w : World) (a : Option Addr) (cap : Nat) (l : List Int) (len : Nat) (hlen : len = l.length) (h : numsR.rel S w [.slice a len cap] l) (x : Int) :
    Calls Tryz.prog 31 #[.slice a len cap, .int .u64 x] w fun e w' => e = .returned (.bool (hasB l x)) ∧ Below w.heap.size w w' := by
  subst hlen
  go_enter Tryz.func31, Tryz.ntmps31
  go_wp2_with fail
  refine (index_any S w a cap l h x).mono ?_
  rintro e w1 ⟨⟨i, rfl, hi⟩, hb⟩
  have HI := Lib.hid hi
  clear hi
  go_wp2_with fail
  go_ret
  refine ⟨ret_bool ?_, hb⟩
  rw [Bool.eq_iff_iff, decide_eq_true_eq]
  exact HI.out

def markB (l : List Int) (k : Nat) : Bool := elemB (l.getD k 0) && !hasUp l (l.getD k 0) k
def marksB (l : List Int) : Bool := decide (l.length ≤ 4) && allUp (markB l) l.length
set_option maxRecDepth 100000 in
set_option maxHeartbeats 2000000 in
theorem validMarks_any (S : Nat → Prop) (w : World) (a : Option Addr) (cap : Nat) (l : List Int) (h : numsR.rel S w [.slice a l.length cap] l) :
    Calls Tryz.prog 17 #[.slice a l.length cap] w fun e w' => e = .returned (.bool (marksB l)) ∧ Below w.heap.size w w' := by
  have g1 := (sliceR.lens h).2
  unfold maxLen at g1
  have H := Lib.hid h
  clear h
  by_cases h4 : 4 < l.length
  · have HF : Hid (marksB l = false) := by show _ = _; unfold marksB; rw [decide_eq_false (by omega)]; rfl
    go_enter Tryz.func17, Tryz.ntmps17
    go_wp2_with fail
    go_ret
    exact ⟨ret_bool HF.out.symm, Below.refl _ _⟩
  · have HM : Hid (marksB l = allUp (markB l) l.length) := by show _ = _; unfold marksB; rw [decide_eq_true (by omega)]; rfl
    go_enter Tryz.func17, Tryz.ntmps17
    go_wp2_with fail
    go_loopw [10] (fun i wr => ∃ k : Nat, k ≤ l.length ∧ i = .int .i64 k ∧ Hid (allUp (markB l) k = true) ∧ Below w.heap.size w wr) (fun i _ => l.length - (intOf i).toNat)
    case atStart => exact ⟨0, Nat.zero_le _, rfl, rfl, Below.refl _ _⟩
    case round =>
      obtain ⟨k, hk, rfl, hall, hbr⟩ := hrel
      by_cases hlt : k < l.length
      · have hrl := numsR.keepB H.out hbr
        have HT := Lib.hid (slice_take hrl k (by omega))
        obtain ⟨b, off, rfl, hbl, n0, n1, hc⟩ := nums_at hrl k hlt
        have hg := Lib.hid (getD_at l 0 k hlt)
        have hmk : Hid (markB l k = (elemB l[k] && !hasUp l l[k] k)) := by show _ = _; unfold markB; rw [hg.out]
        have htl : k = (l.take k).length := by simp; omega
        have HTL := Lib.hid htl
        have HH := Lib.hid (fun x => hasB_take l x k (by omega))
        clear htl hg hrl
        generalize l[k] = n at *
        by_cases hp : n < 18446744069414584321
        · go_wp2_with fail
          refine (contains_any S wr _ cap (l.take k) k HTL.out HT.out n).mono ?_
          rintro e w1 ⟨rfl, hb1⟩
          rw [HH.out n]
          cases hcn : hasUp l n k with
          | true =>
            have HF : Hid (marksB l = false) := by
              show _ = _; rw [HM.out]; exact allUp_false (k := k) (by rw [hmk.out, hcn]; simp) hlt
            go_wp2_with fail
            go_ret
            exact ⟨ret_bool HF.out.symm, bnext hbr hb1⟩
          | false =>
            have HY : Hid (allUp (markB l) (k + 1) = true) := allUp_step hall.out (by rw [hmk.out, hcn]; unfold elemB; rw [decide_eq_true hp]; rfl)
            go_wp2_with fail
            go_roundw
            case rel => exact ⟨k + 1, by omega, by go_num, HY, bnext hbr hb1⟩
            case measure => simp [intOf]; omega
        · have HF : Hid (marksB l = false) := by
            show _ = _; rw [HM.out]; exact allUp_false (k := k) (by rw [hmk.out]; unfold elemB; rw [decide_eq_false hp]; rfl) hlt
          go_wp2_with fail
          go_ret
          exact ⟨ret_bool HF.out.symm, hbr⟩
      · obtain rfl : k = l.length := by omega
        have HF : Hid (marksB l = true) := by show _ = _; rw [HM.out]; exact hall.out
        go_wp2_with fail
        go_ret
        exact ⟨ret_bool HF.out.symm, hbr⟩
end Go.Proofs.YthggdacincfplaaGreatDoor
