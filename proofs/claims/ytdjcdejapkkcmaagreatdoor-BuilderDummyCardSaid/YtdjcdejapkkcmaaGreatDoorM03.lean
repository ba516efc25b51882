/- The tests of numbers, notes and transactions. -/
import Derived.Test.YtdjcdejapkkcmaaGreatDoorM02
import Derived.Test.YtdjcdejapkkcmaaGreatDoorM01
import Derived.Lib.QuietBelow
import Derived.StillTail
namespace Go.Proofs.YtdjcdejapkkcmaaGreatDoor
open Go.ChangeShapes Go.WideShapes Go.ChangeAt Go.RowKit

/-- The first places all pass. -/
def allUp (p : Nat → Bool) : Nat → Bool
  | 0 => true
  | k + 1 => allUp p k && p k
theorem allUp_false {p : Nat → Bool} {k : Nat} (hp : p k = false) : ∀ {n : Nat}, k < n → allUp p n = false
  | 0, h => absurd h (Nat.not_lt_zero _)
  | n + 1, h => by
    unfold allUp
    rcases Nat.lt_or_ge k n with h1 | h1
    · rw [allUp_false hp h1]; rfl
    · obtain rfl : k = n := by omega
      rw [hp, Bool.and_false]
theorem allUp_step {p : Nat → Bool} {k : Nat} (h : allUp p k = true) (hp : p k = true) : allUp p (k + 1) = true := by
  unfold allUp; rw [h, hp]; rfl
def elemB (n : Int) : Bool := decide (n < 18446744069414584321)
def elemsB (l : List Int) : Bool := allUp (fun k => elemB (l.getD k 0)) l.length
theorem getD_at {α : Type} (l : List α) (d : α) (k : Nat) (h : k < l.length) : l.getD k d = l[k] := by simp [h]
/-- A literal list of words. -/
theorem nums_new (w : World) (t : TypeId) (l : List Int) (cap : Nat) (hl : ∀ x ∈ l, okU x) (hc : l.length ≤ cap) (hm : cap ≤ maxLen) : numsR.rel (fun _ => True) (w.alloc (.cells (l.map (Value.int .u64)).toArray t)) [.slice (some ⟨w.heap.size, 0, none⟩) l.length cap] l := by
  refine ⟨_, _, _, rfl, rfl, hc, hm, (fun h => by cases h), fun i x hx => ⟨w.heap.size, 0, [.int .u64 x], rfl, trivial, ⟨rfl, hl x (List.mem_of_getElem? hx)⟩, fun j c hj => ?_, by simp⟩⟩
  have hb := (box_cells (box_new w (.cells (l.map (Value.int .u64)).toArray t))).1
  rw [hb]
  match j, hj with
  | 0, hj =>
    simp at hj
    subst hj
    simp [intR, hx]

set_option maxHeartbeats 1000000 in
theorem elements_any (S : Nat → Prop) (w : World) (a : Option Addr) (cap : Nat) (l : List Int) (h : numsR.rel S w [.slice a l.length cap] l) :
    Calls Tryz.prog 112 #[.slice a l.length cap] w fun e w' => e = .returned (.bool (elemsB l)) ∧ Below w.heap.size w w' := by
  have g1 := (sliceR.lens h).2
  unfold maxLen at g1
  have H := Lib.hid h
  clear h
  go_enter Tryz.func112, Tryz.ntmps112
  go_wp2_with fail
  go_loop [7] (fun i => ∃ k : Nat, k ≤ l.length ∧ i = .int .i64 k ∧ Hid (allUp (fun k => elemB (l.getD k 0)) k = true)) (fun i => l.length - (intOf i).toNat)
  case atStart => exact ⟨0, Nat.zero_le _, rfl, rfl⟩
  case round =>
    obtain ⟨k, hk, rfl, hall⟩ := hrel
    by_cases hlt : k < l.length
    · obtain ⟨b, off, rfl, hbl, n0, n1, hc⟩ := nums_at H.out k hlt
      have hg := Lib.hid (getD_at l 0 k hlt)
      generalize l[k] = n at *
      by_cases hp : n < 18446744069414584321
      · have HY : Hid (allUp (fun k => elemB (l.getD k 0)) (k + 1) = true) := allUp_step hall.out (by rw [hg.out]; exact decide_eq_true hp)
        go_wp2_with fail
        go_round
        case rel => exact ⟨k + 1, by omega, by go_num, HY⟩
        case measure => simp [intOf]; omega
      · have HF : Hid (elemsB l = false) := allUp_false (k := k) (by rw [hg.out]; exact decide_eq_false hp) hlt
        go_wp2_with fail
        go_ret
        exact ⟨ret_bool HF.out.symm, Below.refl _ _⟩
    · obtain rfl : k = l.length := by omega
      have HF : Hid (elemsB l = true) := hall
      go_wp2_with fail
      go_ret
      exact ⟨ret_bool HF.out.symm, Below.refl _ _⟩
set_option maxHeartbeats 1000000 in
theorem oelements_any (S : Nat → Prop) (w : World) (a : Option Addr) (cap : Nat) (l : List Int) (h : numsR.rel S w [.slice a l.length cap] l) :
    Calls Tryz.prog 94 #[.slice a l.length cap] w fun e w' => e = .returned (.bool (elemsB l)) ∧ Below w.heap.size w w' := by
  have g1 := (sliceR.lens h).2
  unfold maxLen at g1
  have H := Lib.hid h
  clear h
  go_enter Tryz.func94, Tryz.ntmps94
  go_wp2_with fail
  go_loop [7] (fun i => ∃ k : Nat, k ≤ l.length ∧ i = .int .i64 k ∧ Hid (allUp (fun k => elemB (l.getD k 0)) k = true)) (fun i => l.length - (intOf i).toNat)
  case atStart => exact ⟨0, Nat.zero_le _, rfl, rfl⟩
  case round =>
    obtain ⟨k, hk, rfl, hall⟩ := hrel
    by_cases hlt : k < l.length
    · obtain ⟨b, off, rfl, hbl, n0, n1, hc⟩ := nums_at H.out k hlt
      have hg := Lib.hid (getD_at l 0 k hlt)
      generalize l[k] = n at *
      by_cases hp : n < 18446744069414584321
      · have HY : Hid (allUp (fun k => elemB (l.getD k 0)) (k + 1) = true) := allUp_step hall.out (by rw [hg.out]; exact decide_eq_true hp)
        go_wp2_with fail
        go_round
        case rel => exact ⟨k + 1, by omega, by go_num, HY⟩
        case measure => simp [intOf]; omega
      · have HF : Hid (elemsB l = false) := allUp_false (k := k) (by rw [hg.out]; exact decide_eq_false hp) hlt
        go_wp2_with fail
        go_ret
        exact ⟨ret_bool HF.out.symm, Below.refl _ _⟩
    · obtain rfl : k = l.length := by omega
      have HF : Hid (elemsB l = true) := hall
      go_wp2_with fail
      go_ret
      exact ⟨ret_bool HF.out.symm, Below.refl _ _⟩

def noteB (n : NoteM) : Bool := decide (n.value ≤ 4294967295 ∧ n.owner < 18446744069414584321 ∧ n.rho < 18446744069414584321 ∧ n.blind < 18446744069414584321)
set_option maxHeartbeats 1000000 in
theorem noteValid_any (w : World) (n : NoteM) : Calls Tryz.prog 50 #[.agg #[.int .u64 n.value, .int .u64 n.owner, .int .u64 n.rho, .int .u64 n.blind]] w fun e w' => e = .returned (.bool (noteB n)) ∧ Below w.heap.size w w' := by
  go_enter Tryz.func50, Tryz.ntmps50
  go_wp2_with fail
  all_goals go_ret
  all_goals refine ⟨ret_bool ?_, (Below.refl _ _).alloc (Nat.le_refl _) _⟩
  all_goals unfold noteB
  all_goals first
    | exact (decide_eq_true (by omega)).symm
    | exact (decide_eq_false (by omega)).symm
    | exact decide_eq_decide.2 (by omega)
def groupB (x y : Int) : Bool := decide (x < 18446744069414584321 ∧ y < 18446744069414584321 ∧ (x ≠ 0 ∨ y ≠ 0))
set_option maxHeartbeats 1000000 in
theorem groupValid_any (w : World) (x y : Int) : Calls Tryz.prog 107 #[.agg #[.int .u64 x, .int .u64 y]] w fun e w' => e = .returned (.bool (groupB x y)) ∧ Below w.heap.size w w' := by
  go_enter Tryz.func107, Tryz.ntmps107
  go_wp2_with fail
  all_goals go_ret
  all_goals refine ⟨ret_bool ?_, (Below.refl _ _).alloc (Nat.le_refl _) _⟩
  all_goals unfold groupB
  all_goals first
    | exact (decide_eq_true (by omega)).symm
    | exact (decide_eq_false (by omega)).symm
    | exact decide_eq_decide.2 (by omega)
    | (rw [Bool.eq_iff_iff]; simp; omega)

def amountsB (t : TxM) : Bool :=
  decide ((t.dep ≤ 4294967295 ∧ t.wd ≤ 4294967295 ∧ t.fee ≤ 4294967295) ∧ (t.acc < 18446744069414584321 ∧ t.nonce < 18446744069414584321) ∧ (0 < t.dep → t.wd = 0) ∧ (¬ 0 < t.dep → (t.marks.length ≠ 0 ∧ t.nonce = 0) ∧ (0 < t.wd ∨ t.acc = 0)))
set_option maxHeartbeats 2000000 in
theorem amounts_any (S : Nat → Prop) (w : World) (t : TxM) (ma oa pa : Option Addr) (mc oc pc : Nat) (h : TxIn S w t ma oa pa mc oc pc) :
    Calls Tryz.prog 79 #[.agg #[.int .u64 t.anchor, .slice ma t.marks.length mc, .slice oa t.outs.length oc, .int .u64 t.dep, .int .u64 t.wd, .int .u64 t.fee, .int .u64 t.acc, .int .u64 t.nonce, .int .i64 t.exp, .slice pa t.proof.length pc]] w fun e w' => e = .returned (.bool (amountsB t)) ∧ Below w.heap.size w w' := by
  have d1 := okU_in h.dep
  have d2 := okU_in h.wd
  have d3 := okU_in h.acc
  have d4 := okU_in h.nonce
  clear h
  unfold amountsB
  generalize t.marks.length = ml
  go_enter Tryz.func79, Tryz.ntmps79
  go_wp2_with fail
  all_goals go_ret
  all_goals refine ⟨ret_bool ?_, (Below.refl _ _).alloc (Nat.le_refl _) _⟩
  all_goals first
    | exact (decide_eq_true (by omega)).symm
    | exact (decide_eq_false (by omega)).symm
    | exact decide_eq_decide.2 (by omega)
    | (rw [Bool.eq_iff_iff]; simp; omega)
    | (simp only [beq_iff_eq, bne_iff_ne, beq_eq_false_iff_ne, bne_eq_false_iff_eq, ne_eq] at * <;> first | exact (decide_eq_true (by omega)).symm | exact (decide_eq_false (by omega)).symm | (rw [Bool.eq_iff_iff]; simp; done) | (rw [Bool.eq_iff_iff]; simp; omega))
end Go.Proofs.YtdjcdejapkkcmaaGreatDoor
/- Transactions: what is well-formed. -/
namespace Go.Proofs.YtdjcdejapkkcmaaGreatDoor
open Go.ChangeShapes Go.WideShapes Go.ChangeAt Go.RowKit

/-- A slice cut short reads as the first elements. -/
theorem slice_take {α : Type} {r : Rep α} {S : Nat → Prop} {w : World} {a : Option Addr} {len cap : Nat} {l : List α} (h : (sliceR r).rel S w [.slice a len cap] l) (k : Nat) (hk : k ≤ l.length) : (sliceR r).rel S w [.slice a k cap] (l.take k) := by
  obtain ⟨a', len', cap', hv, h1, h2, h3, h4, h5⟩ := h
  simp at hv
  obtain ⟨rfl, rfl, rfl⟩ := hv
  refine ⟨a, k, cap, rfl, by simp [hk], by omega, h3, h4, fun i x hx => h5 i x ?_⟩
  rw [List.getElem?_take] at hx
  split at hx
  · exact hx
  · simp at hx
/-- Is x among the first k? -/
def hasUp (l : List Int) (x : Int) : Nat → Bool
  | 0 => false
  | k + 1 => hasUp l x k || (x == l.getD k 0)
theorem hasUp_true {l : List Int} {x : Int} {k : Nat} (hx : (x == l.getD k 0) = true) : ∀ {n : Nat}, k < n → hasUp l x n = true
  | 0, h => absurd h (Nat.not_lt_zero _)
  | n + 1, h => by
    unfold hasUp
    rcases Nat.lt_or_ge k n with h1 | h1
    · rw [hasUp_true hx h1]; rfl
    · obtain rfl : k = n := by omega
      rw [hx, Bool.or_true]
theorem hasUp_take {l : List Int} {x : Int} {k : Nat} (hk : k ≤ l.length) : ∀ n, n ≤ k → hasUp (l.take k) x n = hasUp l x n
  | 0, _ => rfl
  | n + 1, h => by
    unfold hasUp
    rw [hasUp_take hk n (by omega), getD_at (l.take k) 0 n (by simp; omega), getD_at l 0 n (by omega)]
    simp
def hasB (l : List Int) (x : Int) : Bool := hasUp l x l.length
theorem hasB_take (l : List Int) (x : Int) (k : Nat) (hk : k ≤ l.length) : hasB (l.take k) x = hasUp l x k := by
  unfold hasB
  rw [List.length_take, Nat.min_eq_left hk]
  exact hasUp_take hk k (Nat.le_refl _)

set_option maxHeartbeats 1000000 in
theorem index_any (S : Nat → Prop) (w : World) (a : Option Addr) (cap : Nat) (l : List Int) (h : numsR.rel S w [.slice a l.length cap] l) (x : Int) :
    Calls Tryz.prog 63 #[.slice a l.length cap, .int .u64 x] w fun e w' => (∃ i : Int, e = .returned (.int .i64 i) ∧ (0 ≤ i ↔ hasB l x = true)) ∧ Below w.heap.size w w' := by
  have g1 := (sliceR.lens h).2
  unfold maxLen at g1
  have H := Lib.hid h
  clear h
  go_enter Tryz.func63, Tryz.ntmps63
  go_wp2_with fail
  go_loop [8] (fun i => ∃ k : Nat, k ≤ l.length ∧ i = .int .i64 k ∧ Hid (hasUp l x k = false)) (fun i => l.length - (intOf i).toNat)
  case atStart => exact ⟨0, Nat.zero_le _, rfl, rfl⟩
  case round =>
    obtain ⟨k, hk, rfl, hall⟩ := hrel
    by_cases hlt : k < l.length
    · obtain ⟨b, off, rfl, hbl, n0, n1, hc⟩ := nums_at H.out k hlt
      have hg := Lib.hid (getD_at l 0 k hlt)
      generalize l[k] = n at *
      by_cases hp : x = n
      · have hpb : (x == n) = true := by simp [hp]
        have HF : Hid (hasB l x = true) := hasUp_true (k := k) (by rw [hg.out]; exact hpb) hlt
        subst hp
        go_wp2_with fail
        go_ret
        exact ⟨⟨_, rfl, fun _ => HF.out, fun _ => by omega⟩, Below.refl _ _⟩
      · have hpb : (x == n) = false := by simp [hp]
        have HY : Hid (hasUp l x (k + 1) = false) := by show _ = _; unfold hasUp; rw [hg.out, hall.out, hpb]; rfl
        go_wp2_with fail
        go_round
        case rel => exact ⟨k + 1, by omega, by go_num, HY⟩
        case measure => simp [intOf]; omega
    · obtain rfl : k = l.length := by omega
      have HF : Hid (hasB l x = false) := hall
      go_wp2_with fail
      go_ret
      exact ⟨⟨-1, rfl, fun h => by omega, fun h => by rw [HF.out] at h; cases h⟩, Below.refl _ _⟩
theorem contains_any (S : Nat → Prop) (w : World) (a : Option Addr) (cap : Nat) (l : List Int) (len : Nat) (hlen : len = l.length) (h : numsR.rel S w [.slice a len cap] l) (x : Int) :
    Calls Tryz.prog 31 #[.slice a len cap, .int .u64 x] w fun e w' => e = .returned (.bool (hasB l x)) ∧ Below w.heap.size w w' := by
  subst hlen
  go_enter Tryz.func31, Tryz.ntmps31
  go_wp2_with fail
  refine (index_any S w a cap l h x).mono ?_
  rintro e w1 ⟨⟨i, rfl, hi⟩, hb⟩
  have HI := Lib.hid hi
  clear hi
  go_wp2_with fail
  go_ret
  refine ⟨ret_bool ?_, hb⟩
  rw [Bool.eq_iff_iff, decide_eq_true_eq]
  exact HI.out

def markB (l : List Int) (k : Nat) : Bool := elemB (l.getD k 0) && !hasUp l (l.getD k 0) k
def marksB (l : List Int) : Bool := decide (l.length ≤ 4) && allUp (markB l) l.length
set_option maxRecDepth 100000 in
set_option maxHeartbeats 2000000 in
theorem validMarks_any (S : Nat → Prop) (w : World) (a : Option Addr) (cap : Nat) (l : List Int) (h : numsR.rel S w [.slice a l.length cap] l) :
    Calls Tryz.prog 77 #[.slice a l.length cap] w fun e w' => e = .returned (.bool (marksB l)) ∧ Below w.heap.size w w' := by
  have g1 := (sliceR.lens h).2
  unfold maxLen at g1
  have H := Lib.hid h
  clear h
  by_cases h4 : 4 < l.length
  · have HF : Hid (marksB l = false) := by show _ = _; unfold marksB; rw [decide_eq_false (by omega)]; rfl
    go_enter Tryz.func77, Tryz.ntmps77
    go_wp2_with fail
    go_ret
    exact ⟨ret_bool HF.out.symm, Below.refl _ _⟩
  · have HM : Hid (marksB l = allUp (markB l) l.length) := by show _ = _; unfold marksB; rw [decide_eq_true (by omega)]; rfl
    go_enter Tryz.func77, Tryz.ntmps77
    go_wp2_with fail
    go_loopw [10] (fun i wr => ∃ k : Nat, k ≤ l.length ∧ i = .int .i64 k ∧ Hid (allUp (markB l) k = true) ∧ Below w.heap.size w wr) (fun i _ => l.length - (intOf i).toNat)
    case atStart => exact ⟨0, Nat.zero_le _, rfl, rfl, Below.refl _ _⟩
    case round =>
      obtain ⟨k, hk, rfl, hall, hbr⟩ := hrel
      by_cases hlt : k < l.length
      · have hrl := numsR.keepB H.out hbr
        have HT := Lib.hid (slice_take hrl k (by omega))
        obtain ⟨b, off, rfl, hbl, n0, n1, hc⟩ := nums_at hrl k hlt
        have hg := Lib.hid (getD_at l 0 k hlt)
        have hmk : Hid (markB l k = (elemB l[k] && !hasUp l l[k] k)) := by show _ = _; unfold markB; rw [hg.out]
        have htl : k = (l.take k).length := by simp; omega
        have HTL := Lib.hid htl
        have HH := Lib.hid (fun x => hasB_take l x k (by omega))
        clear htl hg hrl
        generalize l[k] = n at *
        by_cases hp : n < 18446744069414584321
        · go_wp2_with fail
          refine (contains_any S wr _ cap (l.take k) k HTL.out HT.out n).mono ?_
          rintro e w1 ⟨rfl, hb1⟩
          rw [HH.out n]
          cases hcn : hasUp l n k with
          | true =>
            have HF : Hid (marksB l = false) := by
              show _ = _; rw [HM.out]; exact allUp_false (k := k) (by rw [hmk.out, hcn]; simp) hlt
            go_wp2_with fail
            go_ret
            exact ⟨ret_bool HF.out.symm, bnext hbr hb1⟩
          | false =>
            have HY : Hid (allUp (markB l) (k + 1) = true) := allUp_step hall.out (by rw [hmk.out, hcn]; unfold elemB; rw [decide_eq_true hp]; rfl)
            go_wp2_with fail
            go_roundw
            case rel => exact ⟨k + 1, by omega, by go_num, HY, bnext hbr hb1⟩
            case measure => simp [intOf]; omega
        · have HF : Hid (marksB l = false) := by
            show _ = _; rw [HM.out]; exact allUp_false (k := k) (by rw [hmk.out]; unfold elemB; rw [decide_eq_false hp]; rfl) hlt
          go_wp2_with fail
          go_ret
          exact ⟨ret_bool HF.out.symm, hbr⟩
      · obtain rfl : k = l.length := by omega
        have HF : Hid (marksB l = true) := by show _ = _; rw [HM.out]; exact hall.out
        go_wp2_with fail
        go_ret
        exact ⟨ret_bool HF.out.symm, hbr⟩
end Go.Proofs.YtdjcdejapkkcmaaGreatDoor
/- Transactions: outputs, what is well-formed. -/
namespace Go.Proofs.YtdjcdejapkkcmaaGreatDoor
open Go.ChangeShapes Go.WideShapes Go.ChangeAt Go.RowKit

def outB (o : OutM) : Bool := elemB o.commit && (groupB o.p0 o.p1 && (decide (o.cipher.length = 3) && elemsB o.cipher))
def outsB (l : List OutM) : Bool := decide (l.length ≤ 4) && l.all outB
set_option maxRecDepth 100000 in
set_option maxHeartbeats 4000000 in
theorem validOuts_any (S : Nat → Prop) (w : World) (a : Option Addr) (cap : Nat) (l : List OutM) (h : outsR.rel S w [.slice a l.length cap] l) :
    Calls Tryz.prog 78 #[.slice a l.length cap] w fun e w' => e = .returned (.bool (outsB l)) ∧ Below w.heap.size w w' := by
  have g1 := (sliceR.lens h).2
  unfold maxLen at g1
  have H := Lib.hid h
  clear h
  by_cases h4 : 4 < l.length
  · have HF : Hid (outsB l = false) := by show _ = _; unfold outsB; rw [decide_eq_false (by omega)]; rfl
    go_enter Tryz.func78, Tryz.ntmps78
    go_wp2_with fail
    go_ret
    exact ⟨ret_bool HF.out.symm, Below.refl _ _⟩
  · have HM : Hid (outsB l = l.all outB) := by show _ = _; unfold outsB; rw [decide_eq_true (by omega)]; rfl
    go_enter Tryz.func78, Tryz.ntmps78
    go_wp2_with fail
    go_loopw [12] (fun vi wr => ∃ k : Nat, k ≤ l.length ∧ vi = .int .i64 k ∧ Hid ((l.take k).all outB = true) ∧ Below w.heap.size w wr) (fun vi _ => l.length - (intOf vi).toNat)
    case atStart => exact ⟨0, Nat.zero_le _, rfl, rfl, Below.refl _ _⟩
    case round =>
      obtain ⟨k, hk, rfl, hall, hbr⟩ := hrel
      by_cases hlt : k < l.length
      · obtain ⟨b, off, ca, cc, rfl, -, hbl, k1, k2, k3, hci, c0, c1, c2, c3⟩ := outs_at (outsR.keepB H.out hbr) k hlt
        have hno := Lib.hid (all_false outB l k hlt)
        have hyes := Lib.hid (all_take_succ outB l k hlt)
        generalize l[k] = o at *
        have hvl := (sliceR.lens hci).2
        unfold maxLen at hvl
        have hbn := bnew (Below.refl wr.heap.size wr) (.cells #[.int .u64 o.commit, .int .u64 o.p0, .int .u64 o.p1, .slice ca o.cipher.length cc] 98)
        have hin := box_new wr (.cells #[.int .u64 o.commit, .int .u64 o.p0, .int .u64 o.p1, .slice ca o.cipher.length cc] 98)
        have HCI := Lib.hid (numsR.keepB hci hbn)
        have hbrn := bnext hbr hbn
        have HIN := Lib.hid hin
        have HBN := Lib.hid hbn
        have HU : Hid (outB o = (elemB o.commit && (groupB o.p0 o.p1 && (decide (o.cipher.length = 3) && elemsB o.cipher)))) := rfl
        clear hci hin hbn
        by_cases hp : o.commit < 18446744069414584321
        · have HE : Hid (elemB o.commit = true) := decide_eq_true hp
          go_wp2_with fail
          refine (groupValid_any _ o.p0 o.p1).mono ?_
          rintro e w1 ⟨rfl, hb1⟩
          have hbw := bnext hbrn hb1
          obtain ⟨x0, x1⟩ := box_cells (box_after hb1 HIN.out)
          cases hg : groupB o.p0 o.p1 with
          | false =>
            have HF : Hid (outsB l = false) := by show _ = _; rw [HM.out]; exact hno.out (by rw [HU.out, hg]; simp)
            go_wp2_with fail
            go_ret
            exact ⟨ret_bool HF.out.symm, hbw⟩
          | true =>
            by_cases hl3 : o.cipher.length = 3
            · have b3 : ((o.cipher.length : Int) == 3) = true := by rw [beq_iff_eq]; omega
              have b3' : ((o.cipher.length : Int) != 3) = false := by rw [bne_eq_false_iff_eq]; omega
              go_wp2_with fail
              go_loop [34] (fun vi => ∃ j : Nat, j ≤ o.cipher.length ∧ vi = .int .i64 j ∧ Hid (allUp (fun k => elemB (o.cipher.getD k 0)) j = true)) (fun vi => o.cipher.length - (intOf vi).toNat)
              case atStart => exact ⟨0, Nat.zero_le _, rfl, rfl⟩
              case round =>
                obtain ⟨j, hj, rfl, hal2⟩ := hrel
                by_cases hjl : j < o.cipher.length
                · obtain ⟨b', off', rfl, hbl', n0, n1, hc'⟩ := nums_at (numsR.keepB HCI.out hb1) j hjl
                  have hgd := Lib.hid (getD_at o.cipher 0 j hjl)
                  generalize o.cipher[j] = n at *
                  by_cases hpn : n < 18446744069414584321
                  · have HY : Hid (allUp (fun k => elemB (o.cipher.getD k 0)) (j + 1) = true) := allUp_step hal2.out (by rw [hgd.out]; exact decide_eq_true hpn)
                    go_wp2_with fail
                    go_round
                    case rel => exact ⟨j + 1, by omega, by go_num, HY⟩
                    case measure => simp [intOf]; omega
                  · have HF : Hid (outsB l = false) := by
                      show _ = _
                      have : elemsB o.cipher = false := allUp_false (k := j) (by rw [hgd.out]; exact decide_eq_false hpn) hjl
                      rw [HM.out]; exact hno.out (by rw [HU.out, this]; simp)
                    go_wp2_with fail
                    go_ret
                    exact ⟨ret_bool HF.out.symm, hbw⟩
                · obtain rfl : j = o.cipher.length := by omega
                  have HY : Hid ((l.take (k + 1)).all outB = true) := by
                    show _ = _
                    have : elemsB o.cipher = true := hal2.out
                    rw [hyes.out, hall.out, HU.out, HE.out, hg, this, decide_eq_true hl3]; rfl
                  go_wp2_with fail
                  go_roundw
                  case rel => exact ⟨k + 1, by omega, by go_num, HY, hbw⟩
                  case measure => simp [intOf]; omega
            · have b3 : ((o.cipher.length : Int) == 3) = false := by rw [beq_eq_false_iff_ne]; omega
              have b3' : ((o.cipher.length : Int) != 3) = true := by rw [bne_iff_ne]; omega
              have HF : Hid (outsB l = false) := by show _ = _; rw [HM.out]; exact hno.out (by rw [HU.out, decide_eq_false hl3]; simp)
              go_wp2_with fail
              go_ret
              exact ⟨ret_bool HF.out.symm, hbw⟩
        · have HF : Hid (outsB l = false) := by
            show _ = _
            have : elemB o.commit = false := decide_eq_false hp
            rw [HM.out]; exact hno.out (by rw [HU.out, this]; rfl)
          go_wp2_with fail
          go_ret
          exact ⟨ret_bool HF.out.symm, hbrn⟩
      · obtain rfl : k = l.length := by omega
        have HF : Hid (outsB l = true) := by show _ = _; rw [HM.out]; have := hall.out; rw [List.take_length] at this; exact this
        go_wp2_with fail
        go_ret
        exact ⟨ret_bool HF.out.symm, hbr⟩

def restB (t : TxM) : Bool := decide (t.anchor < 18446744069414584321 ∧ 0 ≤ t.exp ∧ t.exp ≤ 1048576)
def validE (t : TxM) : Int := if (marksB t.marks && (outsB t.outs && (amountsB t && restB t))) = true then (if t.proof.length ≤ 1048576 then 0 else 3) else 1
set_option maxRecDepth 100000 in
set_option maxHeartbeats 4000000 in
theorem txValid_any (S : Nat → Prop) (w : World) (t : TxM) (ma oa pa : Option Addr) (mc oc pc : Nat) (h : TxIn S w t ma oa pa mc oc pc) :
    Calls Tryz.prog 37 #[.agg #[.int .u64 t.anchor, .slice ma t.marks.length mc, .slice oa t.outs.length oc, .int .u64 t.dep, .int .u64 t.wd, .int .u64 t.fee, .int .u64 t.acc, .int .u64 t.nonce, .int .i64 t.exp, .slice pa t.proof.length pc]] w fun e w' => e = .returned (.int .i64 (validE t)) ∧ Below w.heap.size w w' := by
  have hb0 := bnew (Below.refl w.heap.size w) (.cells #[.int .u64 t.anchor, .slice ma t.marks.length mc, .slice oa t.outs.length oc, .int .u64 t.dep, .int .u64 t.wd, .int .u64 t.fee, .int .u64 t.acc, .int .u64 t.nonce, .int .i64 t.exp, .slice pa t.proof.length pc] 45)
  have HX := Lib.hid (box_new w (.cells #[.int .u64 t.anchor, .slice ma t.marks.length mc, .slice oa t.outs.length oc, .int .u64 t.dep, .int .u64 t.wd, .int .u64 t.fee, .int .u64 t.acc, .int .u64 t.nonce, .int .i64 t.exp, .slice pa t.proof.length pc] 45))
  have H := Lib.hid (h.keepB hb0)
  have HB := Lib.hid hb0
  have g1 := (sliceR.lens h.proof).2
  unfold maxLen at g1
  have HU : Hid (validE t = if (marksB t.marks && (outsB t.outs && (amountsB t && restB t))) = true then (if t.proof.length ≤ 1048576 then 0 else 3) else 1) := rfl
  clear hb0 h
  go_enter Tryz.func37, Tryz.ntmps37
  go_wp2_with fail
  refine (validMarks_any S _ ma mc t.marks H.out.marks).mono ?_
  rintro e w1 ⟨rfl, hb1⟩
  obtain ⟨x0, x1⟩ := box_cells (box_after hb1 HX.out)
  have hw1 := bnext HB.out hb1
  cases hv1 : marksB t.marks with
  | false =>
    have HF : Hid (validE t = 1) := by show _ = _; rw [HU.out, hv1]; rfl
    go_wp2_with fail
    go_ret
    exact ⟨ret_int HF.out.symm, hw1⟩
  | true =>
    go_wp2_with fail
    refine (validOuts_any S w1 oa oc t.outs (outsR.keepB H.out.outs hb1)).mono ?_
    rintro e w2 ⟨rfl, hb2⟩
    clear x0 x1
    obtain ⟨x0, x1⟩ := box_cells (box_after hb2 (box_after hb1 HX.out))
    have hw2 := bnext hw1 hb2
    cases hv2 : outsB t.outs with
    | false =>
      have HF : Hid (validE t = 1) := by show _ = _; rw [HU.out, hv1, hv2]; rfl
      go_wp2_with fail
      go_ret
      exact ⟨ret_int HF.out.symm, hw2⟩
    | true =>
      go_wp2_with fail
      refine (amounts_any S w2 t ma oa pa mc oc pc ((H.out.keepB hb1).keepB hb2)).mono ?_
      rintro e w3 ⟨rfl, hb3⟩
      clear x0 x1
      obtain ⟨x0, x1⟩ := box_cells (box_after hb3 (box_after hb2 (box_after hb1 HX.out)))
      have hw3 := bnext hw2 hb3
      cases hv3 : amountsB t with
      | false =>
        have HF : Hid (validE t = 1) := by show _ = _; rw [HU.out, hv1, hv2, hv3]; rfl
        go_wp2_with fail
        go_ret
        exact ⟨ret_int HF.out.symm, hw3⟩
      | true =>
        have HU2 : Hid (validE t = if restB t = true then (if t.proof.length ≤ 1048576 then 0 else 3) else 1) := by show _ = _; rw [HU.out, hv1, hv2, hv3]; rfl
        by_cases hr : t.anchor < 18446744069414584321 ∧ 0 ≤ t.exp ∧ t.exp ≤ 1048576
        · have HR : Hid (restB t = true) := decide_eq_true hr
          obtain ⟨r1, r2, r3⟩ := hr
          by_cases hl : t.proof.length ≤ 1048576
          · have HF : Hid (validE t = 0) := by show _ = _; rw [HU2.out, HR.out, if_pos rfl, if_pos hl]
            have hl' : ¬ (1048576 : Int) < (t.proof.length : Int) := by omega
            go_wp2_with fail
            go_ret
            exact ⟨ret_int HF.out.symm, hw3⟩
          · have HF : Hid (validE t = 3) := by show _ = _; rw [HU2.out, HR.out, if_pos rfl, if_neg hl]
            have hl' : (1048576 : Int) < (t.proof.length : Int) := by omega
            go_wp2_with fail
            go_ret
            exact ⟨ret_int HF.out.symm, hw3⟩
        · have HF : Hid (validE t = 1) := by
            show _ = _
            have : restB t = false := decide_eq_false hr
            rw [HU2.out, this]; rfl
          by_cases r1 : t.anchor < 18446744069414584321
          · by_cases r2 : 0 ≤ t.exp
            · have r3 : ¬ t.exp ≤ 1048576 := fun h => hr ⟨r1, r2, h⟩
              go_wp2_with fail
              go_ret
              exact ⟨ret_int HF.out.symm, hw3⟩
            · go_wp2_with fail
              go_ret
              exact ⟨ret_int HF.out.symm, hw3⟩
          · go_wp2_with fail
            go_ret
            exact ⟨ret_int HF.out.symm, hw3⟩
end Go.Proofs.YtdjcdejapkkcmaaGreatDoor
/- Regions that draw their order: a head that only reads and allocates, then a tail in order. Nothing of the program is named here; no conditions. -/
namespace Go.Proofs.YtdjcdejapkkcmaaGreatDoor
open Go.RowKit Go.Sort

section
variable {P : Program} {ops : Array Oper} {md : Region.Mode} {C : World → Prop}

/-- Whatever order is picked, the first f operations to come up are of the head and quiet in the class; behind them L holds. -/
def headQ (P : Program) (md : Region.Mode) (ops : Array Oper) (C : World → Prop) (n : Nat) (L : Array Bool → Act → Prop) : Nat → Array Bool → Act → Prop
  | 0, listed, a => L listed a
  | f + 1, listed, a => Region.ready md ops listed ≠ [] ∧ ∀ i ∈ Region.ready md ops listed, i < n ∧ qOp P ops C i (headQ P md ops C n L f (listed.setIfInBounds i true)) a

theorem any_of_headQ {n g : Nat} {L : Array Bool → Act → Prop} {Q' : Exit → Act → World → Prop} (hL : ∀ listed a w, C w → L listed a → wpAny P md ops Q' g listed a w) :
    ∀ (f : Nat) (listed : Array Bool) (a : Act) (w : World), C w → headQ P md ops C n L f listed a → wpAny P md ops Q' (f + g) listed a w
  | 0, listed, a, w, hw, h => by rw [Nat.zero_add]; exact hL _ _ _ hw h
  | f + 1, listed, a, w, hw, h => by
    rw [show f + 1 + g = (f + g) + 1 by omega]
    exact ⟨fun h0 => absurd h0 h.1, fun i hi => wpOp_of_qOp hw (fun a' w' hw' h' => any_of_headQ hL f _ a' w' hw' h') (h.2 i hi).2⟩

theorem headQ_first {n i : Nat} {oi : Oper} {v : Value} {L : Array Bool → Act → Prop} (hi : ops[i]? = some oi) (hsel : ∀ (j : Nat) (o : Oper) cs b, ops[j]? = some o → o.op ≠ .select cs b)
    (hs : Region.sinkB md ops n = true) (hc : Region.chainB md ops n = true) (hn : n < ops.size) (hin : i < n)
    (hdone : ∀ listed a, L listed a → ∀ j ∈ Region.ready md ops listed, n ≤ j) :
    ∀ (f : Nat) (listed : Array Bool) (a : Act), HeadInv md ops n listed →
      (∀ j oj, ops[j]? = some oj → j ≠ i → listed.getD j true = false → (∀ e ∈ oj.after, Region.binds md e = true → e.on ≠ i) → oi.apart ops oj = true) →
      i ∈ Region.ready md ops listed → YieldsIn P ops C oi v a →
      headQ P md ops C n L f (listed.setIfInBounds i true) (a.put oi.dst v) → headQ P md ops C n L (f + 1) listed a := by
  have small : ∀ (listed : Array Bool), HeadInv md ops n listed → i ∈ Region.ready md ops listed → ∀ j ∈ Region.ready md ops listed, j < n := fun listed inv hr j hj => by
    rcases Nat.lt_or_ge j n with h | h
    · exact h
    · exact absurd hj (tail_waits hs hc hn inv _ i rfl hin (mem_ready.1 hr).1 j h)
  intro f
  induction f with
  | zero =>
    intro listed a inv _ hr hy H
    refine ⟨fun h => (by rw [h] at hr; cases hr), fun j hj => ⟨small listed inv hr j hj, ?_⟩⟩
    by_cases hji : j = i
    · subst hji; exact hy.qOp hi H
    · have h1 := hdone _ _ H j (ready_mono hj hji)
      have h2 := small listed inv hr j hj
      omega
  | succ f ih =>
    intro listed a inv hfree hr hy H
    have hun := (mem_ready.1 hr).1
    refine ⟨fun h => (by rw [h] at hr; cases hr), fun j hj => ⟨small listed inv hr j hj, ?_⟩⟩
    by_cases hji : j = i
    · subst hji; exact hy.qOp hi H
    · have h1 := (H.2 j (ready_mono hj hji)).2
      obtain ⟨hjun, oj, hoj, hall⟩ := mem_ready.1 hj
      have hnot : ∀ e ∈ oj.after, Region.binds md e = true → e.on ≠ i := fun e he hb heq => by
        have h1 := hall e he hb
        rw [heq, getD_both hun] at h1
        cases h1
      have h2 := qOp_put hoj (hfree j oj hoj hji hjun hnot) (fun cs b => hsel i oi cs b hi) (fun cs b => hsel j oj cs b hoj) hy h1
      have hfree' : ∀ k ok, ops[k]? = some ok → k ≠ i → (listed.setIfInBounds j true).getD k true = false →
          (∀ e ∈ ok.after, Region.binds md e = true → e.on ≠ i) → oi.apart ops ok = true := fun k ok hk hki hun' hno => by
        refine hfree k ok hk hki ?_ hno
        by_cases hjk : j = k
        · subst hjk; exact hjun
        · rw [getD_set_ne true hjk] at hun'; exact hun'
      refine qOp_mono (fun a' h3 => ih (listed.setIfInBounds j true) a' (inv.set hj (small listed inv hr j hj)) hfree' (ready_mono hr (Ne.symm hji)) h3.1 ?_) h2
      rw [Array.setIfInBounds_comm _ _ hji]
      exact h3.2

theorem headQ_lex {n g : Nat} {Lq : Act → Prop} (hsel : Region.noSelect ops = true) (hs : Region.sinkB md ops n = true) (hc : Region.chainB md ops n = true) (hn : n < ops.size) :
    ∀ (l : List Oper) (k : Nat) (listed : Array Bool) (a : Act), (∀ j, j < l.length → l[j]? = ops[k + j]?) → k + l.length = n → HeadInv md ops n listed →
    Region.lexHead md ops g l.length k listed = true → wpQuiet P ops C Lq l a →
    headQ P md ops C n (fun listed' a' => Region.seqB md ops g n listed' = true ∧ Lq a') l.length listed a
  | [], k, listed, a, _, hk, _, hB, h => by
    have : k = n := by simpa using hk
    subst this
    exact ⟨by simpa [Region.lexHead] using hB, h⟩
  | o :: l, k, listed, a, hl, hk, inv, hB, h => by
    have h0 : ops[k]? = some o := by simpa using (hl 0 (by simp)).symm
    simp only [List.length_cons, Region.lexHead, Bool.and_eq_true] at hB
    obtain ⟨⟨hr, hf⟩, hB'⟩ := hB
    have hkn : k < n := by simp only [List.length_cons] at hk; omega
    have hr' : k ∈ Region.ready md ops listed := by simpa using hr
    have hst : qOp P ops C k (wpQuiet P ops C Lq l) a := by unfold qOp; simp only [h0]; exact h
    obtain ⟨v, hy, hK⟩ := yieldsIn_of_qOp h0 hst
    exact headQ_first h0 (Region.noSelect_spec hsel) hs hc hn hkn (fun listed' a' hL => seqB_ready hL.1) l.length listed a inv (Region.free_spec h0 hf) hr' hy
      (headQ_lex hsel hs hc hn l (k + 1) _ _ (fun j hj => by have := hl (j + 1) (by simp; omega); simpa [Nat.add_assoc, Nat.add_comm 1 j] using this) (by simp only [List.length_cons] at hk; omega) (inv.set hr' hkn) hB' hK)

/-- A region whose first n operations read, or call what only allocates, and whose last ones wait for all of these and go in order. -/
theorem wp_region_quiet_tail {id : Nat} {Q : Exit → Act → World → Prop} {a : Act} {w : World} {l : List Oper} (n : Nat) (hm : P.follows .mixedOrders = true) (hB : Region.lexTailB .any l.toArray n = true)
    (h : wpQuiet P l.toArray (fun w' => ∃ p : Regrown, w' = grow (redrawn w p.d) p.os) (fun a' => ∀ w', (∃ p : Regrown, w' = grow (redrawn w p.d) p.os) → wpList P l.toArray Q (l.drop n) a' w') (l.take n) a) : (Code.region id l.toArray true).wp P Q a w := by
  simp only [Region.lexTailB, Bool.and_eq_true, decide_eq_true_eq] at hB
  obtain ⟨⟨⟨⟨hsel, hn⟩, hs⟩, hc⟩, hlex⟩ := hB
  have hn' : n < l.length := by simpa using hn
  have htl : (l.take n).length = n := by simp; omega
  have hdl : (l.drop n).length = l.toArray.size - n := by simp
  have inv0 : HeadInv .any l.toArray n (Array.replicate l.toArray.size false) :=
    ⟨by simp, fun j oj _ hl => (by rw [getD_replicate_false] at hl; cases hl), fun t _ ht => getD_in (by simpa using ht) (getD_replicate_false _ _)⟩
  have H := headQ_lex (md := .any) (g := l.toArray.size - n) hsel hs hc hn (l.take n) 0 _ a (fun j hj => by
    have hj' : j < n := by rw [htl] at hj; exact hj
    simp [hj']) (by simpa using htl) inv0 (by rw [htl]; exact hlex) h
  refine wp_region_any hm ?_
  have := any_of_headQ (Q' := Q) (g := l.toArray.size - n) (fun listed a' w' hw' hL => by
    have := wpAny_of_seq (md := .any) (Q' := Q) (l.drop n) n listed a' w' (fun j => by simp [List.getElem?_drop]) (by rw [hdl]; exact hL.1) (hL.2 w' hw')
    rwa [hdl] at this) _ _ _ { w with drawn := w.drawn + 1 } ⟨⟨w.drawn + 1, #[]⟩, by rw [grow_empty]; rfl⟩ H
  rw [htl, show n + (l.toArray.size - n) = l.toArray.size by omega] at this
  exact this
end

/-- Cells of a block that is known whole, in every world of the class. -/
theorem box_regrown {w : World} {b : Nat} {cs : Array Value} {t : TypeId} (h : w.heap[b]? = some (.cells cs t (0, 0))) : ∀ (d : Nat) (os : Array Obj) (i : Nat), (grow (redrawn w d) os).cell? ⟨b, i, none⟩ = cs[i]? :=
  fun d os i => (box_cells (box_after (below_regrown w d os) h)).1 i
theorem cell_in {w : World} {a : Addr} {v : Value} (h : w.cell? a = some v) : ∀ (d : Nat) (os : Array Obj), (grow (redrawn w d) os).cell? a = some v := fun d os => cell_regrown h d os
end Go.Proofs.YtdjcdejapkkcmaaGreatDoor
/- The permutation at the big prime: Permute. -/
namespace Go.Proofs.YtdjcdejapkkcmaaGreatDoor
open Go.ChangeShapes Go.WideShapes Go.ChangeAt Go.RowKit Go.Sort

/-- The state at block B, zeros behind it, the prime behind these; blocks below B are as they were. -/
def PermAt (w : World) (s : T3) (wr : World) : Prop :=
  Below w.heap.size w wr ∧ wr.heap[w.heap.size]? = some (.cells #[.int .u64 s.1, .int .u64 s.2.1, .int .u64 s.2.2] 111 (0, 0)) ∧
    wr.heap[w.heap.size + 1]? = some (.cells #[.int .u64 0, .int .u64 0, .int .u64 0] 111 (0, 0)) ∧ wr.heap[w.heap.size + 2]? = some (.cells #[.int .u64 18446744069414584321] 110 (0, 0))
theorem PermAt.next {w w1 w2 : World} {s : T3} (h : PermAt w s w1) (hb : Below w1.heap.size w1 w2) : PermAt w s w2 :=
  ⟨bnext h.1 hb, box_after hb h.2.1, box_after hb h.2.2.1, box_after hb h.2.2.2⟩
theorem PermAt.start (w : World) (s : T3) : PermAt w s (((w.alloc (.cells #[.int .u64 s.1, .int .u64 s.2.1, .int .u64 s.2.2] 111)).alloc (.cells #[.int .u64 0, .int .u64 0, .int .u64 0] 111)).alloc (.cells #[.int .u64 18446744069414584321] 110)) := by
  obtain ⟨q1, q2, q3⟩ := three_new w (.cells #[.int .u64 s.1, .int .u64 s.2.1, .int .u64 s.2.2] 111) (.cells #[.int .u64 0, .int .u64 0, .int .u64 0] 111) (.cells #[.int .u64 18446744069414584321] 110)
  exact ⟨bnew (bnew (bnew (Below.refl _ _) _) _) _, q3, q2, q1⟩
theorem PermAt.store {w wr : World} {s : T3} (h : PermAt w s wr) (t : T3) : PermAt w t (((wr.setCell ⟨w.heap.size, 0, none⟩ (.int .u64 t.1)).setCell ⟨w.heap.size, 1, none⟩ (.int .u64 t.2.1)).setCell ⟨w.heap.size, 2, none⟩ (.int .u64 t.2.2)) := by
  obtain ⟨h1, h2, h3, h4⟩ := h
  refine ⟨((h1.setCell (Nat.le_refl _) _).setCell (Nat.le_refl _) _).setCell (Nat.le_refl _) _, box_set (box_set (box_set h2)), ?_, ?_⟩
  · have e1 : w.heap.size + 1 ≠ w.heap.size := by omega
    exact box_set_far (box_set_far (box_set_far h3 e1) e1) e1
  · have e1 : w.heap.size + 2 ≠ w.heap.size := by omega
    exact box_set_far (box_set_far (box_set_far h4 e1) e1) e1
theorem PermAt.one {w wr : World} {s t : T3} (h : PermAt w s wr) (i : Nat) (v : Value) (ht : (#[.int .u64 s.1, .int .u64 s.2.1, .int .u64 s.2.2] : Array Value).setIfInBounds i v = #[.int .u64 t.1, .int .u64 t.2.1, .int .u64 t.2.2]) : PermAt w t (wr.setCell ⟨w.heap.size, i, none⟩ v) := by
  obtain ⟨h1, h2, h3, h4⟩ := h
  refine ⟨h1.setCell (Nat.le_refl _) _, ht ▸ box_set h2, ?_, ?_⟩
  · have e1 : w.heap.size + 1 ≠ w.heap.size := by omega
    exact box_set_far h3 e1
  · have e1 : w.heap.size + 2 ≠ w.heap.size := by omega
    exact box_set_far h4 e1
theorem PermAt.drew {w wr : World} {s : T3} (h : PermAt w s wr) : PermAt w s wr.drew := ⟨h.1.drew, h.2.1, h.2.2.1, h.2.2.2⟩
theorem cstP_word (r i : Int) : 0 ≤ cstP r i := by unfold cstP; exact (redP_in _).1
/-- After i of the three powers of a round. -/
def stepS (r : Int) (s : T3) : Nat → T3
  | 0 => s
  | 1 => (sbox r 0 s.1, s.2.1, s.2.2)
  | 2 => (sbox r 0 s.1, sbox r 1 s.2.1, s.2.2)
  | _ => (sbox r 0 s.1, sbox r 1 s.2.1, sbox r 2 s.2.2)

set_option maxRecDepth 100000 in
set_option maxHeartbeats 4000000 in
theorem permute_big (s : T3) (hs : Words3 s) (w : World) :
    Calls Tryz.prog 85 #[.int .u64 18446744069414584321, .agg #[.int .u64 s.1, .int .u64 s.2.1, .int .u64 s.2.2]] w
      fun e w' => e = .returned (.agg #[.int .u64 (permS s).1, .int .u64 (permS s).2.1, .int .u64 (permS s).2.2]) ∧ Below w.heap.size w w' := by
  have hst := Lib.hid (PermAt.start w s)
  have HW := Lib.hid (permTo_words hs)
  clear hs
  go_enter Tryz.func85, Tryz.ntmps85
  go_wp2_with fail
  refine (valid_big _).mono ?_
  rintro e w1 ⟨rfl, hb1⟩
  have h1 := hst.out.next hb1
  obtain ⟨x0, x1⟩ := box_cells h1.2.2.2
  go_wp2_with fail
  refine (exponent_big _).mono ?_
  rintro e w2 ⟨rfl, hb2⟩
  have h2 := h1.next hb2
  clear x0 x1 h1 hst hb1 hb2
  go_wp2_with fail
  go_loopw [17] (fun i wr => ∃ k : Nat, k ≤ 8 ∧ i = .int .i64 k ∧ PermAt w (permTo s k) wr) (fun i _ => 8 - (intOf i).toNat)
  case atStart => exact ⟨0, by omega, rfl, h2⟩
  case round =>
    obtain ⟨k, hk, rfl, hp⟩ := hrel
    clear h2
    by_cases hlt : k < 8
    · have hwk := HW.out k
      have hsucc : Hid (permTo s (k + 1) = mixS (stepS k (permTo s k) 3)) := rfl
      generalize permTo s k = t at *
      have n0 : (0 : Int) ≤ (k : Int) := by omega
      have n1 : (k : Int) < 8 := by omega
      go_wp2_with fail
      go_loopw [20] (fun i wr => ∃ j : Nat, j ≤ 3 ∧ i = .int .i64 j ∧ PermAt w (stepS k t j) wr) (fun i _ => 3 - (intOf i).toNat)
      case atStart => exact ⟨0, by omega, rfl, hp⟩
      case round =>
        obtain ⟨j, hj, rfl, hq⟩ := hrel
        clear hp
        by_cases hj3 : j < 3
        · have hcase : j = 0 ∨ j = 1 ∨ j = 2 := by omega
          rcases hcase with h0 | h0 | h0
          · obtain rfl : j = 0 := by omega
            have hq' : PermAt w (t.1, t.2.1, t.2.2) wr := hq
            have HQ := Lib.hid hq'
            have x0 := box_regrown hq'.2.1
            have y0 := box_regrown hq'.2.2.2
            clear hq hq'
            have hx : 0 ≤ t.1 := by unfold Words3 at hwk; omega
            have hc := cstP_word k 0
            have ha := addP_word t.1 (cstP k 0)
            go_wp2_with fail
            refine wp_region_quiet_tail 14 (by kernel_rfl) (by kernel_rfl) ?_
            simp only [List.take_succ_cons, List.take_zero, List.drop_succ_cons, List.drop_zero]
            repeat (quiet_step (first
              | exact Calls.regrown_of (constant_big k 0 n0 n1 (by omega) (by omega) _)
              | exact Calls.regrown_of (Add_big t.1 (cstP k 0) hx hc _)
              | exact Calls.regrown_of (Pow_big (addP t.1 (cstP k 0)) ha.1 7 (by omega) _)))
            refine wpQuiet_nil ?_
            intro wq hw'
            obtain ⟨⟨dq, osq⟩, hw''⟩ := hw'
            have hbq := below_regrown wr dq osq
            rw [← hw''] at hbq
            clear hw'' x0 y0
            have pC := PermAt.next HQ.out hbq
            obtain ⟨c0, c1⟩ := box_cells pC.2.1
            have HN := Lib.hid (PermAt.one (t := (sbox k 0 t.1, t.2.1, t.2.2)) pC 0 (.int .u64 (sbox k 0 t.1)) rfl)
            clear pC
            unfold sbox at HN
            go_wp2_with fail
            go_roundw
            case rel => exact ⟨1, by omega, by go_num, HN.out⟩
            case measure => simp [intOf]
          · obtain rfl : j = 1 := by omega
            have hq' : PermAt w (sbox k 0 t.1, t.2.1, t.2.2) wr := hq
            have HQ := Lib.hid hq'
            have x0 := box_regrown hq'.2.1
            have y0 := box_regrown hq'.2.2.2
            clear hq hq'
            have hx : 0 ≤ t.2.1 := by unfold Words3 at hwk; omega
            have hc := cstP_word k 1
            have ha := addP_word t.2.1 (cstP k 1)
            go_wp2_with fail
            refine wp_region_quiet_tail 14 (by kernel_rfl) (by kernel_rfl) ?_
            simp only [List.take_succ_cons, List.take_zero, List.drop_succ_cons, List.drop_zero]
            repeat (quiet_step (first
              | exact Calls.regrown_of (constant_big k 1 n0 n1 (by omega) (by omega) _)
              | exact Calls.regrown_of (Add_big t.2.1 (cstP k 1) hx hc _)
              | exact Calls.regrown_of (Pow_big (addP t.2.1 (cstP k 1)) ha.1 7 (by omega) _)))
            refine wpQuiet_nil ?_
            intro wq hw'
            obtain ⟨⟨dq, osq⟩, hw''⟩ := hw'
            have hbq := below_regrown wr dq osq
            rw [← hw''] at hbq
            clear hw'' x0 y0
            have pC := PermAt.next HQ.out hbq
            obtain ⟨c0, c1⟩ := box_cells pC.2.1
            have HN := Lib.hid (PermAt.one (t := (sbox k 0 t.1, sbox k 1 t.2.1, t.2.2)) pC 1 (.int .u64 (sbox k 1 t.2.1)) rfl)
            clear pC
            unfold sbox at HN
            go_wp2_with fail
            go_roundw
            case rel => exact ⟨2, by omega, by go_num, HN.out⟩
            case measure => simp [intOf]
          · obtain rfl : j = 2 := by omega
            have hq' : PermAt w (sbox k 0 t.1, sbox k 1 t.2.1, t.2.2) wr := hq
            have HQ := Lib.hid hq'
            have x0 := box_regrown hq'.2.1
            have y0 := box_regrown hq'.2.2.2
            clear hq hq'
            have hx : 0 ≤ t.2.2 := by unfold Words3 at hwk; omega
            have hc := cstP_word k 2
            have ha := addP_word t.2.2 (cstP k 2)
            go_wp2_with fail
            refine wp_region_quiet_tail 14 (by kernel_rfl) (by kernel_rfl) ?_
            simp only [List.take_succ_cons, List.take_zero, List.drop_succ_cons, List.drop_zero]
            repeat (quiet_step (first
              | exact Calls.regrown_of (constant_big k 2 n0 n1 (by omega) (by omega) _)
              | exact Calls.regrown_of (Add_big t.2.2 (cstP k 2) hx hc _)
              | exact Calls.regrown_of (Pow_big (addP t.2.2 (cstP k 2)) ha.1 7 (by omega) _)))
            refine wpQuiet_nil ?_
            intro wq hw'
            obtain ⟨⟨dq, osq⟩, hw''⟩ := hw'
            have hbq := below_regrown wr dq osq
            rw [← hw''] at hbq
            clear hw'' x0 y0
            have pC := PermAt.next HQ.out hbq
            obtain ⟨c0, c1⟩ := box_cells pC.2.1
            have HN := Lib.hid (PermAt.one (t := (sbox k 0 t.1, sbox k 1 t.2.1, sbox k 2 t.2.2)) pC 2 (.int .u64 (sbox k 2 t.2.2)) rfl)
            clear pC
            unfold sbox at HN
            go_wp2_with fail
            go_roundw
            case rel => exact ⟨3, by omega, by go_num, HN.out⟩
            case measure => simp [intOf]
        · obtain rfl : j = 3 := by omega
          have HQ := Lib.hid hq
          obtain ⟨x0, x1⟩ := box_cells hq.2.1
          clear hq
          generalize hu : stepS k t 3 = u at *
          have HU := Lib.hid hu
          have hu0 : 0 ≤ u.1 ∧ 0 ≤ u.2.1 ∧ 0 ≤ u.2.2 := by
            rw [← hu]; exact ⟨(sbox_word _ _ _).1, (sbox_word _ _ _).1, (sbox_word _ _ _).1⟩
          clear hu
          go_wp2_with fail
          refine (mix_big u.1 u.2.1 u.2.2 hu0.1 hu0.2.1 hu0.2.2 _).mono ?_
          rintro e w3 ⟨rfl, hb3⟩
          have h3 := HQ.out.next hb3
          clear x0 x1
          obtain ⟨x0, x1⟩ := box_cells h3.2.1
          have HN := Lib.hid (PermAt.store h3 (mixS (u.1, u.2.1, u.2.2)))
          clear h3
          go_wp2_with fail
          go_roundw
          case rel => exact ⟨k + 1, by omega, by go_num, by rw [hsucc.out]; exact HN.out⟩
          case measure => simp [intOf]; omega
    · obtain rfl : k = 8 := by omega
      obtain ⟨h1, h2, h3, h4⟩ := hp
      obtain ⟨x0, x1⟩ := box_cells h2
      obtain ⟨y0, y1⟩ := box_cells h3
      have hpe : Hid (permS s = permTo s 8) := rfl
      generalize permTo s 8 = t at *
      obtain ⟨r0, r1, r2⟩ := read3 (x := .int .u64 t.1) (y := .int .u64 t.2.1) (z := .int .u64 t.2.2) (y0 0) (y0 1) (y0 2)
      go_wp2_with fail
      refine bodyPost_ret (v := .agg #[.int .u64 t.1, .int .u64 t.2.1, .int .u64 t.2.2]) (by simp [results, Tryz.results85, go_sem, r0, r1, r2]) rfl ⟨by rw [hpe.out], ?_⟩
      exact ((h1.setCell (Nat.le_succ _) _).setCell (Nat.le_succ _) _).setCell (Nat.le_succ _) _
end Go.Proofs.YtdjcdejapkkcmaaGreatDoor
