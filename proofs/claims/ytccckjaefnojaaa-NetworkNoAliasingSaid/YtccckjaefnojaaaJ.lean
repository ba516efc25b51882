/- The reference's functions: Fits, has, Equal, Same. -/
import Derived.Test.YtccckjaefnojaaaI
import Derived.Laws.BytesArg
import Derived.Lib.ConvBytes
namespace Go.Proofs.Ytccckjaefnojaaa
open Go.ChangeShapes Go.WideShapes Go.ChangeAt Go.RowKit

theorem bytes_cells {S : Nat → Prop} {w : World} {a : Option Addr} {len cap : Nat} {xs : List Int} (h : bytesR.rel S w [.slice a len cap] xs) : ∀ i, i < xs.length → ∃ b off, a = some ⟨b, off, none⟩ ∧ w.cell? ⟨b, off + i, none⟩ = some (.int .u8 (xs.getD i 0)) ∧ 0 ≤ xs.getD i 0 ∧ xs.getD i 0 ≤ 255 := by
  intro i hi
  obtain ⟨b, off, rfl, -, -, h0, hw⟩ := ints_at h i hi
  have hx : xs.getD i 0 = xs[i] := by simp [List.getD, hi]
  rw [hx]
  have hb : 0 ≤ xs[i] ∧ xs[i] ≤ 255 := by simpa [Lit.wf, IntKind.min, IntKind.max, IntKind.signed, IntKind.bits] using hw
  exact ⟨b, off, rfl, h0, hb⟩
theorem conv_str {P : Program} {src e dst : TypeId} (hs : P.underlying src = some (.slice e)) (he : P.underlying e = some (.int .u8)) (hd : P.underlying dst = some .string)
    {S : Nat → Prop} {w : World} {a : Option Addr} {len cap : Nat} {xs : List Int} (h : bytesR.rel S w [.slice a len cap] xs) : (convert src dst (.slice a len cap)).run P w = .ok (.string (strOfNums xs)) w := by
  obtain ⟨rfl, -⟩ := sliceR.lens h
  cases xs with
  | nil =>
    cases a with
    | none => exact run_convert_bytes_nil w src e hs he _ _ dst hd
    | some ad =>
      rw [run_convert_bytes_string w src dst e _ _ cap hs he hd, run_bytesToString w _ _ cap [] (by simp [loadCells, loadCellsFrom])]
      rfl
  | cons x xs =>
    obtain ⟨b, off, rfl, -⟩ := bytes_cells h 0 (by simp)
    refine run_convert_bytes_arg w src e hs he b off _ cap (x :: xs) rfl (fun i hi => ?_) dst hd
    obtain ⟨b', off', h1, h2, -⟩ := bytes_cells h i hi
    simp at h1
    obtain ⟨rfl, rfl⟩ := h1
    exact h2
theorem bytes_ok {S : Nat → Prop} {w : World} {v : Value} {xs : List Int} (h : bytesR.rel S w [v] xs) : ∀ x ∈ xs, 0 ≤ x ∧ x ≤ 255 := by
  obtain ⟨a, cap, rfl, -⟩ := sliceR.form h
  intro x hx
  obtain ⟨i, hi, rfl⟩ := List.getElem_of_mem hx
  obtain ⟨b, off, -, -, h1, h2⟩ := bytes_cells h i hi
  simp [List.getD, hi] at h1 h2
  exact ⟨h1, h2⟩
theorem strOfNums_inj : ∀ {xs ys : List Int}, (∀ x ∈ xs, 0 ≤ x ∧ x ≤ 255) → (∀ x ∈ ys, 0 ≤ x ∧ x ≤ 255) → (xs.map fun n => UInt8.ofNat n.toNat) = (ys.map fun n => UInt8.ofNat n.toNat) → xs = ys
  | [], [], _, _, _ => rfl
  | [], _ :: _, _, _, h => by simp at h
  | _ :: _, [], _, _, h => by simp at h
  | x :: xs, y :: ys, hx, hy, h => by
    simp only [List.map_cons, List.cons.injEq] at h
    have h1 := hx x (by simp)
    have h2 := hy y (by simp)
    have h3 := congrArg UInt8.toNat h.1
    simp only [UInt8.toNat_ofNat'] at h3
    have : x = y := by omega
    rw [this, strOfNums_inj (fun z hz => hx z (by simp [hz])) (fun z hz => hy z (by simp [hz])) h.2]

def eqB (a b : Msg) : Bool := a.kind == b.kind && a.frm == b.frm && a.to == b.to && a.bytes == b.bytes
theorem eqB_iff {a b : Msg} : eqB a b = true ↔ a = b := by
  cases a; cases b
  simp [eqB, and_assoc]
theorem eqB_refl (a : Msg) : eqB a a = true := eqB_iff.2 rfl

set_option maxRecDepth 100000 in
set_option maxHeartbeats 1000000 in
theorem fits_any (w : World) (nodes : Int) (a : Option Addr) (n cap : Nat) (m : Msg) (va : Option Addr) (vc : Nat) (hn : n ≤ 9223372036854775807) (hv : m.bytes.length ≤ 9223372036854775807) :
    Calls Try.prog 15 #[.int .i64 nodes, .slice a n cap, .agg #[.int .i64 m.kind, .int .i64 m.frm, .int .i64 m.to, .slice va m.bytes.length vc]] w fun e w' => e = .returned (.bool (fitsB nodes n m)) ∧ Below w.heap.size w w' := by
  go_enter Try.func15, Try.ntmps15
  go_wp2
  all_goals go_ret
  all_goals refine ⟨ret_bool ?_, bnew (Below.refl _ _) _⟩
  all_goals unfold fitsB
  all_goals first
    | exact (decide_eq_true (by omega)).symm
    | exact (decide_eq_false (by omega)).symm
    | exact decide_eq_decide.2 (by omega)

set_option maxRecDepth 100000 in
set_option maxHeartbeats 1000000 in
theorem has_any (S : Nat → Prop) (w : World) (a : Option Addr) (cap : Nat) (g : List Int) (x : Int) (hg : intsR.rel S w [.slice a g.length cap] g) :
    Calls Try.prog 34 #[.slice a g.length cap, .int .i64 x] w fun e w' => e = .returned (.bool (hasB g x)) ∧ w = w' := by
  obtain ⟨-, g1, g2, -⟩ := sliceR.lens hg
  unfold maxLen at g2
  have hsn := Lib.hid (hasB_snoc g)
  go_enter Try.func34, Try.ntmps34
  go_wp2_with fail
  go_loop [5] (fun i => ∃ k : Nat, k ≤ g.length ∧ i = .int .i64 k ∧ hasB (g.take k) x = false) (fun i => g.length - (intOf i).toNat)
  case atStart => exact ⟨0, Nat.zero_le _, rfl, rfl⟩
  case round =>
    obtain ⟨k, hk, rfl, hno⟩ := hrel
    have HN := Lib.hid hno
    clear hno
    by_cases hlt : k < g.length
    · obtain ⟨b, off, rfl, -, hbl, c0, cw⟩ := ints_at hg k hlt
      have hstep := Lib.hid (hsn.out k hlt x)
      have hmem : Hid (g[k] = x → hasB g x = true) := fun h => by unfold hasB; rw [decide_eq_true_eq, ← h]; simp
      generalize g[k] = y at c0 cw hstep hmem
      by_cases hy : y = x
      · have h1 : (y == x) = true := by simpa using hy
        have H := Lib.hid (hmem.out hy)
        clear hy
        go_wp2_with fail
        go_ret
        exact ⟨by rw [H.out]; rfl, rfl⟩
      · have h1 : (y == x) = false := by simpa using hy
        go_wp2_with fail
        go_round
        case rel => exact ⟨k + 1, by omega, by go_num, by rw [hstep.out, HN.out, Bool.false_or, beq_eq_false_iff_ne]; exact fun h => hy h.symm⟩
        case measure => simp [intOf]; omega
    · obtain rfl : k = g.length := by omega
      have H := HN.out
      rw [List.take_length] at H
      have HH := Lib.hid H
      clear H
      go_wp2_with fail
      go_ret
      exact ⟨by rw [HH.out]; rfl, rfl⟩

set_option maxRecDepth 100000 in
set_option maxHeartbeats 1000000 in
theorem equal_any (S S' : Nat → Prop) (w : World) (x y : Msg) (xa ya : Option Addr) (xc yc : Nat) (hx : bytesR.rel S w [.slice xa x.bytes.length xc] x.bytes) (hy : bytesR.rel S' w [.slice ya y.bytes.length yc] y.bytes) :
    Calls Try.prog 22 #[.agg #[.int .i64 x.kind, .int .i64 x.frm, .int .i64 x.to, .slice xa x.bytes.length xc], .agg #[.int .i64 y.kind, .int .i64 y.frm, .int .i64 y.to, .slice ya y.bytes.length yc]] w fun e w' => e = .returned (.bool (eqB x y)) ∧ Below w.heap.size w w' := by
  have hb := bnew (bnew (Below.refl w.heap.size w) (.cells #[.int .i64 x.kind, .int .i64 x.frm, .int .i64 x.to, .slice xa x.bytes.length xc] 24)) (.cells #[.int .i64 y.kind, .int .i64 y.frm, .int .i64 y.to, .slice ya y.bytes.length yc] 24)
  have cx := conv_str Try.underlying22 Try.underlying5 Try.underlying9 (bytesR.keepB hx hb)
  have cy := conv_str Try.underlying22 Try.underlying5 Try.underlying9 (bytesR.keepB hy hb)
  have hinj : Hid (((strOfNums x.bytes).toList == (strOfNums y.bytes).toList) = (x.bytes == y.bytes)) := by
    show _ = _
    rw [Bool.eq_iff_iff, beq_iff_eq, beq_iff_eq, ByteArray.toList_eq, ByteArray.toList_eq, strOfNums_data, strOfNums_data]
    constructor
    · exact fun h => strOfNums_inj (bytes_ok hx) (bytes_ok hy) h
    · intro h; rw [h]
  cases h1 : (x.kind == y.kind) with
  | false =>
    have he : Hid (eqB x y = false) := by show _ = _; unfold eqB; rw [h1]; rfl
    go_enter Try.func22, Try.ntmps22
    go_wp2
    go_ret
    exact ⟨by rw [he.out]; rfl, hb⟩
  | true =>
    cases h2 : (x.frm == y.frm) with
    | false =>
      have he : Hid (eqB x y = false) := by show _ = _; unfold eqB; rw [h1, h2]; rfl
      go_enter Try.func22, Try.ntmps22
      go_wp2
      go_ret
      exact ⟨by rw [he.out]; rfl, hb⟩
    | true =>
      cases h3 : (x.to == y.to) with
      | false =>
        have he : Hid (eqB x y = false) := by show _ = _; unfold eqB; rw [h1, h2, h3]; rfl
        go_enter Try.func22, Try.ntmps22
        go_wp2
        go_ret
        exact ⟨by rw [he.out]; rfl, hb⟩
      | true =>
        have he : Hid (eqB x y = (x.bytes == y.bytes)) := by show _ = _; unfold eqB; rw [h1, h2, h3]; rfl
        go_enter Try.func22, Try.ntmps22
        go_wp2
        go_ret
        exact ⟨by rw [he.out, ← hinj.out]; rfl, hb⟩

def sameB : List Msg → List Msg → Bool
  | [], [] => true
  | x :: xs, y :: ys => eqB x y && sameB xs ys
  | _, _ => false
theorem sameB_refl : ∀ l, sameB l l = true
  | [] => rfl
  | x :: xs => by simp [sameB, eqB_refl, sameB_refl xs]
theorem sameB_len {xs ys : List Msg} (h : xs.length ≠ ys.length) : sameB xs ys = false := by
  induction xs generalizing ys with
  | nil => cases ys with
    | nil => simp at h
    | cons y ys => rfl
  | cons x xs ih => cases ys with
    | nil => rfl
    | cons y ys => simp [sameB, ih (ys := ys) (by simpa using h)]
theorem sameB_no {xs ys : List Msg} (k : Nat) (hx : k < xs.length) (hy : k < ys.length) (h : eqB xs[k] ys[k] = false) : sameB xs ys = false := by
  induction xs generalizing ys k with
  | nil => simp at hx
  | cons x xs ih => cases ys with
    | nil => rfl
    | cons y ys =>
      cases k with
      | zero => simp at h; simp [sameB, h]
      | succ k => simp [sameB, ih (ys := ys) k (by simpa using hx) (by simpa using hy) (by simpa using h)]
theorem sameB_yes {xs ys : List Msg} (hl : xs.length = ys.length) (h : ∀ k (hx : k < xs.length), eqB xs[k] (ys[k]'(by omega)) = true) : sameB xs ys = true := by
  induction xs generalizing ys with
  | nil => cases ys with
    | nil => rfl
    | cons y ys => simp at hl
  | cons x xs ih => cases ys with
    | nil => simp at hl
    | cons y ys =>
      have h0 := h 0 (by simp)
      simp at h0
      simp only [sameB, h0, Bool.true_and]
      exact ih (by simpa using hl) fun k hk => by have := h (k + 1) (by simpa using hk); simpa using this

theorem msgR.bytes {S : Nat → Prop} {w : World} {m : Msg} {v : Value} (h : msgR.rel S w [.int .i64 m.kind, .int .i64 m.frm, .int .i64 m.to, v] m) : bytesR.rel S w [v] m.bytes := by
  obtain ⟨v', e, -, -, -, h4⟩ := msgR.inv h
  simp at e; subst e; exact h4

set_option maxRecDepth 100000 in
set_option maxHeartbeats 1000000 in
theorem same_any (S S' : Nat → Prop) (w : World) (xs ys : List Msg) (xa ya : Option Addr) (xc yc : Nat) (hx : (sliceR msgR).rel S w [.slice xa xs.length xc] xs) (hy : (sliceR msgR).rel S' w [.slice ya ys.length yc] ys) :
    Calls Try.prog 19 #[.slice xa xs.length xc, .slice ya ys.length yc] w fun e w' => e = .returned (.bool (sameB xs ys)) ∧ Below w.heap.size w w' := by
  obtain ⟨-, g1, g2, -⟩ := sliceR.lens hx
  obtain ⟨-, g3, g4, -⟩ := sliceR.lens hy
  unfold maxLen at g2 g4
  by_cases hl : xs.length = ys.length
  · have hl' : ((xs.length : Int) != (ys.length : Int)) = false := by simp; omega
    have hle : xs.length ≤ ys.length := by omega
    have HL := Lib.hid hl
    clear hl
    go_enter Try.func19, Try.ntmps19
    go_wp2_with fail
    go_loopw [5] (fun i wr => ∃ k : Nat, k ≤ xs.length ∧ i = .int .i64 k ∧ (∀ j (h1 : j < xs.length) (h2 : j < ys.length), j < k → eqB xs[j] ys[j] = true) ∧ Below w.heap.size w wr) (fun i _ => xs.length - (intOf i).toNat)
    case atStart => exact ⟨0, Nat.zero_le _, rfl, fun j _ _ h => by omega, Below.refl _ _⟩
    case round =>
      obtain ⟨k, hk, rfl, hno, hbr⟩ := hrel
      have HN := Lib.hid hno
      clear hno
      by_cases hlt : k < xs.length
      · have hlt2 : k < ys.length := by omega
        obtain ⟨b, off, va, vc, rfl, -, hbl, hr1, c0, c1, c2, c3⟩ := msgs_at ((sliceR msgR).keepB hx hbr) k hlt
        obtain ⟨b', off', va', vc', rfl, -, hbl', hr2, d0, d1, d2, d3⟩ := msgs_at ((sliceR msgR).keepB hy hbr) k hlt2
        have n0 : (0 : Int) ≤ (k : Int) := by omega
        have n1 : (k : Int) < (xs.length : Int) := by omega
        have n2 : (k : Int) < (ys.length : Int) := by omega
        have hcall := fun W (hW : Below wr.heap.size wr W) => equal_any S S' W xs[k] ys[k] va va' vc vc' (bytesR.keepB (msgR.bytes hr1) hW) (bytesR.keepB (msgR.bytes hr2) hW)
        have HC := Lib.hid hcall
        clear hcall
        go_wp2_with fail
        go_region_held3 (fun w' => Below wr.heap.size wr w' ∧ w'.cell? ⟨b, off + k * 4, none⟩ = some (.int .i64 xs[k].kind) ∧ w'.cell? ⟨b, off + k * 4 + 1, none⟩ = some (.int .i64 xs[k].frm) ∧ w'.cell? ⟨b, off + k * 4 + 2, none⟩ = some (.int .i64 xs[k].to) ∧ w'.cell? ⟨b, off + k * 4 + 3, none⟩ = some (.slice va xs[k].bytes.length vc) ∧
            w'.cell? ⟨b', off' + k * 4, none⟩ = some (.int .i64 ys[k].kind) ∧ w'.cell? ⟨b', off' + k * 4 + 1, none⟩ = some (.int .i64 ys[k].frm) ∧ w'.cell? ⟨b', off' + k * 4 + 2, none⟩ = some (.int .i64 ys[k].to) ∧ w'.cell? ⟨b', off' + k * 4 + 3, none⟩ = some (.slice va' ys[k].bytes.length vc'))
          (first
            | exact ⟨(Below.refl _ _).drew, c0, c1, c2, c3, d0, d1, d2, d3⟩
            | (have hh := (‹Below wr.heap.size wr _ ∧ _› : Below wr.heap.size wr _ ∧ _).1; have h2 := bnext hh hb1; exact ⟨h2, (h2.cell (p := ⟨_, _, _⟩) hbl).trans c0, (h2.cell (p := ⟨_, _, _⟩) hbl).trans c1, (h2.cell (p := ⟨_, _, _⟩) hbl).trans c2, (h2.cell (p := ⟨_, _, _⟩) hbl).trans c3, (h2.cell (p := ⟨_, _, _⟩) hbl').trans d0, (h2.cell (p := ⟨_, _, _⟩) hbl').trans d1, (h2.cell (p := ⟨_, _, _⟩) hbl').trans d2, (h2.cell (p := ⟨_, _, _⟩) hbl').trans d3⟩))
          (first
            | (go_at_call 22; refine (HC.out _ (‹Below wr.heap.size wr _ ∧ _› : Below wr.heap.size wr _ ∧ _).1).mono ?_; rintro e w1 ⟨rfl, hb1⟩))
        have hh := (‹Below wr.heap.size wr _ ∧ _› : Below wr.heap.size wr _ ∧ _).1
        have hb2 := bnext hbr hh
        generalize hd : eqB xs[k] ys[k] = d
        have HD := Lib.hid hd
        clear hd
        cases d with
        | true =>
          go_wp2_with fail
          go_roundw
          case rel =>
            refine ⟨k + 1, by omega, by go_num, fun j h1 h2 h => ?_, hb2⟩
            rcases Nat.lt_or_ge j k with h' | h'
            · exact HN.out j h1 h2 h'
            · obtain rfl : j = k := by omega
              exact HD.out
          case measure => simp [intOf]; omega
        | false =>
          go_wp2_with fail
          go_ret
          exact ⟨by rw [sameB_no k hlt hlt2 HD.out]; rfl, hb2⟩
      · have H : Hid (sameB xs ys = true) := sameB_yes HL.out fun j hj => HN.out j hj (by omega) (by omega)
        go_wp2_with fail
        go_ret
        exact ⟨by rw [H.out]; rfl, hbr⟩
  · have hl' : ((xs.length : Int) != (ys.length : Int)) = true := by simp; omega
    have H := Lib.hid (sameB_len hl)
    clear hl
    go_enter Try.func19, Try.ntmps19
    go_wp2_with fail
    go_ret
    exact ⟨by rw [H.out]; rfl, Below.refl _ _⟩
end Go.Proofs.Ytccckjaefnojaaa
