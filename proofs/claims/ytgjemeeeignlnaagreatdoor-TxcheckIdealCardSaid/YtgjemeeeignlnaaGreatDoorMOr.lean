/- The key of numbers, exact; the map of issued proofs, which has no entry or one. -/
import Derived.Test.YtgjemeeeignlnaaGreatDoorMSp
import Derived.Test.YtgjemeeeignlnaaGreatDoorMFld
import Derived.Test.YtgjemeeeignlnaaGreatDoorMRd
import Derived.Test.YtgjemeeeignlnaaGreatDoorMRel
import Derived.Test.YtgjemeeeignlnaaGreatDoorMKit
namespace Go.Proofs.YtgjemeeeignlnaaGreatDoor
open Go.ChangeShapes Go.WideShapes Go.ChangeAt Go.RowKit

theorem bytes_stringX {S : Nat → Prop} {w : World} {v : Value} {ys : List Int} (h : bytesR.rel S w [v] ys) : (convert 29 9 v).run Tryz.prog w = .ok (.string (strOfNums ys)) w := by
  obtain ⟨a, cap, rfl, -⟩ := sliceR.form h
  cases ys with
  | nil =>
    have hE : strOfNums [] = ByteArray.empty := rfl
    rw [hE]
    cases a with
    | none => exact run_convert_bytes_nil (P := Tryz.prog) w 29 5 Tryz.underlying29 Tryz.underlying5 _ _ 9 Tryz.underlying9
    | some ad =>
      rw [run_convert_bytes_string (P := Tryz.prog) w 29 9 5 _ _ _ Tryz.underlying29 Tryz.underlying5 Tryz.underlying9]
      have hl : (loadCells ad 0).run Tryz.prog w = .ok #[] w := by simpa using run_loadCells_list (P := Tryz.prog) w ad [] (by simp)
      rw [List.length_nil, run_bytesToString (P := Tryz.prog) w ad 0 cap [] (by simpa using hl)]
      rfl
  | cons y ys =>
    obtain ⟨b, off, es, rfl, -, -, -, -⟩ := sliceR.at h 0 (by simp)
    refine run_convert_bytes_arg (P := Tryz.prog) w 29 5 Tryz.underlying29 Tryz.underlying5 b off (y :: ys).length cap (y :: ys) rfl (fun i hi => ?_) 9 Tryz.underlying9
    obtain ⟨b', off', he, -, -, -, -, hc⟩ := bytes_at h i hi
    simp at he
    obtain ⟨rfl, rfl⟩ := he
    rw [hc, getD_at _ _ i hi]

/-- The name of some numbers and a list. -/
def keyS (m l : List Int) : ByteArray := strOfNums (digsAll m ++ digsAll l)
set_option maxRecDepth 100000 in
set_option maxHeartbeats 2000000 in
theorem keyX_any (S S' : Nat → Prop) (w : World) (a b : Option Addr) (ca cb : Nat) (l m : List Int) (h : numsR.rel S w [.slice a l.length ca] l) (h' : numsR.rel S' w [.slice b m.length cb] m) (hl : l.length ≤ 1000) (hm : m.length ≤ 1000) :
    Calls Tryz.prog 27 #[.slice a l.length ca, .slice b m.length cb] w fun e w' => e = .returned (.string (keyS m l)) ∧ Below w.heap.size w w' := by
  have H := Lib.hid h
  have H' := Lib.hid h'
  clear h h'
  go_enter Tryz.func27, Tryz.ntmps27
  go_wp2_with (at_make; refine wpList_make_rel rfl _ _ rfl u8R w.heap.size Tryz.etyBytes rfl rfl (n := 8 * (m.length + l.length)) ?_ ?_ ?_ ?_ ?_)
  · go_num
  · omega
  · unfold maxLen; omega
  · exact Nat.le_refl _
  intro w1 ho1 hb1
  have HO1 := Lib.hid (Own.mono ho1 (F' := fun x => False ∨ w.heap.size ≤ x) fun x _ h => .inr (by omega))
  clear ho1
  go_wp2_with fail
  go_loopw [5, 19] (fun vb vi wr => ∃ (k : Nat) (ys : List Int), k ≤ m.length ∧ vi = .int .i64 k ∧ ys.length = 8 * k ∧ Hid (ys = digsAll (m.take k)) ∧ Own u8R w.heap.size 5 (fun x => False ∨ w.heap.size ≤ x) wr vb ys ∧ Below w.heap.size w wr) (fun _ vi _ => m.length - (intOf vi).toNat)
  case atStart => exact ⟨0, [], Nat.zero_le _, rfl, rfl, rfl, HO1.out, hb1⟩
  case round =>
    obtain ⟨k, ys, hk, rfl, hyl, hye, hor, hbr⟩ := hrel
    by_cases hlt : k < m.length
    · obtain ⟨bb, off, rfl, hbl, n0, n1, hc⟩ := nums_at (numsR.keepB H'.out hbr) k hlt
      have HT : Hid (ys ++ digs 8 m[k] = digsAll (m.take (k + 1))) := by show _ = _; rw [List.take_succ_eq_append_getElem hlt, digsAll_snoc, hye.out]
      generalize m[k] = n at *
      go_wp2_with fail
      refine (appendNumber_any w wr w.heap.size hbr (Nat.le_refl _) _ ys hor n n0 n1 (by omega)).mono ?_
      rintro e w3 ⟨v3, rfl, ho3, hb3⟩
      go_wp2_with fail
      go_roundw
      case rel => exact ⟨k + 1, ys ++ digs 8 n, by omega, by go_num, by rw [List.length_append, digs_len]; omega, HT, ho3, hb3⟩
      case measure => simp [intOf]; omega
    · obtain rfl : k = m.length := by omega
      go_wp2_with fail
      go_loopw [5, 29] (fun vb vi wr => ∃ (k : Nat) (ys : List Int), k ≤ l.length ∧ vi = .int .i64 k ∧ ys.length = 8 * m.length + 8 * k ∧ Hid (ys = digsAll m ++ digsAll (l.take k)) ∧ Own u8R w.heap.size 5 (fun x => False ∨ w.heap.size ≤ x) wr vb ys ∧ Below w.heap.size w wr) (fun _ vi _ => l.length - (intOf vi).toNat)
      case atStart => exact ⟨0, ys, Nat.zero_le _, rfl, by omega, by show _ = _; rw [hye.out]; simp [digsAll], hor, hbr⟩
      case round =>
        clear hor hbr hyl hye
        obtain ⟨k, ys, hk, rfl, hyl, hye, hor, hbr⟩ := hrel
        by_cases hlt : k < l.length
        · obtain ⟨bb, off, rfl, hbl, n0, n1, hc⟩ := nums_at (numsR.keepB H.out hbr) k hlt
          have HT : Hid (ys ++ digs 8 l[k] = digsAll m ++ digsAll (l.take (k + 1))) := by show _ = _; rw [List.take_succ_eq_append_getElem hlt, digsAll_snoc, hye.out, List.append_assoc]
          generalize l[k] = n at *
          go_wp2_with fail
          refine (appendNumber_any w _ w.heap.size hbr (Nat.le_refl _) _ ys hor n n0 n1 (by omega)).mono ?_
          rintro e w3 ⟨v3, rfl, ho3, hb3⟩
          go_wp2_with fail
          go_roundw
          case rel => exact ⟨k + 1, ys ++ digs 8 n, by omega, by go_num, by rw [List.length_append, digs_len]; omega, HT, ho3, hb3⟩
          case measure => simp [intOf]; omega
        · obtain rfl : k = l.length := by omega
          have hs := bytes_stringX hor.slice
          have HK : Hid (strOfNums ys = keyS m l) := by show _ = _; rw [hye.out, List.take_length]; rfl
          rw [HK.out] at hs
          go_wp2_with fail
          go_ret
          exact ⟨rfl, hbr⟩
theorem keyX_one (S S' : Nat → Prop) (w : World) (a b : Option Addr) (ca cb : Nat) (l : List Int) (x : Int) (h : numsR.rel S w [.slice a l.length ca] l) (h' : numsR.rel S' w [.slice b 1 cb] [x]) (hl : l.length ≤ 1000) :
    Calls Tryz.prog 27 #[.slice a l.length ca, .slice b 1 cb] w fun e w' => e = .returned (.string (keyS [x] l)) ∧ Below w.heap.size w w' := keyX_any S S' w a b ca cb l [x] h h' hl (by simp)
theorem keyX_len (S S' : Nat → Prop) (w : World) (a b : Option Addr) (len ca cb : Nat) (l : List Int) (x : Int) (hlen : l.length = len) (h : numsR.rel S w [.slice a len ca] l) (h' : numsR.rel S' w [.slice b 1 cb] [x]) (hl : len ≤ 1000) :
    Calls Tryz.prog 27 #[.slice a len ca, .slice b 1 cb] w fun e w' => e = .returned (.string (keyS [x] l)) ∧ Below w.heap.size w w' := by
  subst hlen
  exact keyX_one S S' w a b ca cb l x h h' hl

/-- Numbers below 2^64 with the same digits are the same. -/
theorem digs_bytej : ∀ (k : Nat) {a b : Int}, 0 ≤ a → 0 ≤ b → a < 256 ^ k → b < 256 ^ k → digs k a = digs k b → a = b
  | 0, a, b, a0, b0, a1, b1, _ => by simp at a1 b1; omega
  | k + 1, a, b, a0, b0, a1, b1, h => by
    simp only [digs, List.cons.injEq] at h
    have h1 : a / 256 < 256 ^ k := by
      rw [Int.pow_succ] at a1; exact Int.ediv_lt_of_lt_mul (by omega) a1
    have h2 : b / 256 < 256 ^ k := by
      rw [Int.pow_succ] at b1; exact Int.ediv_lt_of_lt_mul (by omega) b1
    have := digs_bytej k (by omega) (by omega) h1 h2 h.2
    omega
theorem digsAll_inj : ∀ {l m : List Int}, (∀ x ∈ l, okU x) → (∀ x ∈ m, okU x) → digsAll l = digsAll m → l = m
  | [], [], _, _, _ => rfl
  | [], y :: m, _, _, h => by simp [digsAll, digs] at h
  | x :: l, [], _, _, h => by simp [digsAll, digs] at h
  | x :: l, y :: m, hl, hm, h => by
    simp only [digsAll] at h
    obtain ⟨h1, h2⟩ := List.append_inj h (by rw [digs_len, digs_len])
    have bx := okU_in (hl x (by simp))
    have by' := okU_in (hm y (by simp))
    rw [digs_bytej 8 bx.1 by'.1 (by have := bx.2; omega) (by have := by'.2; omega) h1, digsAll_inj (fun z hz => hl z (by simp [hz])) (fun z hz => hm z (by simp [hz])) h2]
theorem digsAll_app : ∀ (l m : List Int), digsAll (l ++ m) = digsAll l ++ digsAll m
  | [], m => rfl
  | x :: l, m => by simp [digsAll, digsAll_app l m]
theorem digs_byte : ∀ (k : Nat) (a : Int), ∀ d ∈ digs k a, 0 ≤ d ∧ d < 256
  | 0, _, d, h => by simp [digs] at h
  | k + 1, a, d, h => by
    simp only [digs, List.mem_cons] at h
    rcases h with rfl | h
    · omega
    · exact digs_byte k _ d h
theorem digsAll_in : ∀ (l : List Int), ∀ d ∈ digsAll l, 0 ≤ d ∧ d < 256
  | [], d, h => by simp [digsAll] at h
  | x :: l, d, h => by
    simp only [digsAll, List.mem_append] at h
    rcases h with h | h
    · exact digs_byte 8 x d h
    · exact digsAll_in l d h
theorem strOfNums_inj : ∀ {l m : List Int}, (∀ d ∈ l, 0 ≤ d ∧ d < 256) → (∀ d ∈ m, 0 ≤ d ∧ d < 256) → (l.map fun n => UInt8.ofNat n.toNat) = (m.map fun n => UInt8.ofNat n.toNat) → l = m
  | [], [], _, _, _ => rfl
  | [], y :: m, _, _, h => by simp at h
  | x :: l, [], _, _, h => by simp at h
  | x :: l, y :: m, hl, hm, h => by
    simp only [List.map_cons, List.cons.injEq] at h
    have bx := hl x (by simp)
    have by' := hm y (by simp)
    have e : x.toNat = y.toNat := by
      have := congrArg UInt8.toNat h.1
      rw [UInt8.toNat_ofNat', UInt8.toNat_ofNat'] at this
      omega
    rw [strOfNums_inj (fun z hz => hl z (by simp [hz])) (fun z hz => hm z (by simp [hz])) h.2]
    congr 1
    omega
theorem keyS_inj {x y : Int} {l m : List Int} (hx : okU x) (hy : okU y) (hl : ∀ z ∈ l, okU z) (hm : ∀ z ∈ m, okU z) (h : keyS [x] l = keyS [y] m) : x = y ∧ l = m := by
  unfold keyS at h
  rw [← digsAll_app, ← digsAll_app] at h
  have h2 := congrArg (fun b : ByteArray => b.data.toList) h
  simp only [strOfNums_data] at h2
  have h3 := strOfNums_inj (digsAll_in _) (digsAll_in _) h2
  have h4 := digsAll_inj (l := [x] ++ l) (m := [y] ++ m) (by simpa using ⟨hx, hl⟩) (by simpa using ⟨hy, hm⟩) h3
  simpa using h4

/-- The proofs that were issued: none, or one with its name. -/
def provedM : Option ByteArray → Obj
  | none => .map #[] 0
  | some s => .map #[{ key := .string s, val := .bool true, born := 0 }] 1
theorem zero_bool (w : World) : (zeroValue 4).run Tryz.prog w = .ok (.bool false) w := by
  have h0 : (Tryz.prog.info? 4).map (·.zero) = some (some (.bool false)) := by kernel_rfl
  obtain ⟨i, hi, hz⟩ := Option.map_eq_some_iff.1 h0
  simp [zeroValue, typeInfo, hi, hz]
theorem lookup_proved (w : World) (mk : Nat) (o : Option ByteArray) (h : w.heap[mk]? = some (provedM o)) (s : ByteArray) : (Instr.lookup 69 (.map (some mk)) (.string s) false).run Tryz.prog w = .ok (.bool (decide (o = some s))) w := by
  have hz := zero_bool w
  cases o with
  | none =>
    have hck := MapKept.run_checkKey (P := Tryz.prog) (w := w) (k := .string s) Tryz.underlying9 (by simp [MapKept.IsKey]) true 9999
    have hfk := MapKept.run_findKey (P := Tryz.prog) (w := w) (k := .string s) (l := []) (a := none) Tryz.underlying9 rfl
    simp [Instr.lookup, run_underlying Tryz.underlying69, MapKept.run_getObj_map h, hck, hfk, hz]
  | some k =>
    have hck := MapKept.run_checkKey (P := Tryz.prog) (w := w) (k := .string s) Tryz.underlying9 (by simp [MapKept.IsKey]) false 9999
    by_cases hs : k = s
    · subst hs
      have hfk := MapKept.run_findKey (P := Tryz.prog) (w := w) (k := .string k) (l := [{ key := .string k, val := .bool true, born := 0 }]) (a := some (0, .bool true)) Tryz.underlying9 (by have e : (k == k) = true := (MapKept.bytes_beq k k).2 rfl; simp [Instr.findNow, Instr.sameNow, e])
      simp [Instr.lookup, run_underlying Tryz.underlying69, MapKept.run_getObj_map h, hck, hfk]
    · have hne : (s == k) = false := by
        cases hb : (s == k) with
        | false => rfl
        | true => exact absurd ((MapKept.bytes_beq _ _).1 hb).symm hs
      have hfk := MapKept.run_findKey (P := Tryz.prog) (w := w) (k := .string s) (l := [{ key := .string k, val := .bool true, born := 0 }]) (a := none) Tryz.underlying9 (by simp [Instr.findNow, Instr.sameNow, hne])
      have hd : decide (some k = some s) = false := by simpa using hs
      rw [hd]
      simp [Instr.lookup, run_underlying Tryz.underlying69, MapKept.run_getObj_map h, hck, hfk, hz]
/-- No proof was issued, or the one of this name. -/
def PrIn (mk : Nat) (s : ByteArray) (w : World) : Prop := w.heap[mk]? = some (provedM none) ∨ w.heap[mk]? = some (provedM (some s))
theorem update_proved (w : World) (mk : Nat) (s : ByteArray) (h : PrIn mk s w) : (Instr.mapUpdate 69 (.map (some mk)) (.string s) (.bool true)).run Tryz.prog w = .ok () { w with heap := w.heap.setIfInBounds mk (provedM (some s)) } := by
  have hck := MapKept.run_checkKey (P := Tryz.prog) (w := w) (k := .string s) Tryz.underlying9 (by simp [MapKept.IsKey]) false 9999
  rcases h with h | h
  · have hfk := MapKept.run_findKey (P := Tryz.prog) (w := w) (k := .string s) (l := []) (a := none) Tryz.underlying9 rfl
    simp [Instr.mapUpdate, run_underlying Tryz.underlying69, MapKept.run_getObj_map h, hck, hfk, MapKept.run_setObj_map _ h, Result.andThen]
    rfl
  · have e : (s == s) = true := (MapKept.bytes_beq s s).2 rfl
    have hfk := MapKept.run_findKey (P := Tryz.prog) (w := w) (k := .string s) (l := [{ key := .string s, val := .bool true, born := 0 }]) (a := some (0, .bool true)) Tryz.underlying9 (by simp [Instr.findNow, Instr.sameNow, e])
    have hst : (Instr.keyThatStays (.string s) (.string s)).run Tryz.prog w = .ok (.string s) w := MapKept.run_keyThatStays (d := .string) (by simp [MapKept.IsKey])
    simp [Instr.mapUpdate, run_underlying Tryz.underlying69, MapKept.run_getObj_map h, hck, hfk, hst, MapKept.run_setObj_map _ h, Result.andThen]
    rfl
end Go.Proofs.YtgjemeeeignlnaaGreatDoor
/- Ideal oracles. -/
namespace Go.Proofs.YtgjemeeeignlnaaGreatDoor
open Go.ChangeShapes Go.WideShapes Go.ChangeAt Go.RowKit

set_option maxHeartbeats 1000000 in
theorem ideal_any (w : World) (st : Int) : Calls Tryz.prog 6 #[.int .u64 st] w (NewOr true st w) := by
  go_enter Tryz.func6, Tryz.ntmps6
  go_wp2_with fail
  refine (newOracle_any w).mono ?_
  rintro e w1 ⟨p, rfl, h1, ⟨mk, ms, mp, q1, q2, q3, q4⟩, h3⟩
  obtain ⟨c0, c1⟩ := box_cells q1
  have hno : ∀ b, w1.heap[b]? = some (.map #[] 0) → b ≠ p := fun b hb e => by rw [e, q1] at hb; cases hb
  have N1 := Lib.hid (hno mk q2)
  have N2 := Lib.hid (hno ms q3)
  have N3 := Lib.hid (hno mp q4)
  have Q1 := Lib.hid q1
  have Q2 := Lib.hid q2
  have Q3 := Lib.hid q3
  have Q4 := Lib.hid q4
  clear q1 q2 q3 q4 hno
  go_wp2
  go_ret
  refine ⟨p, rfl, h1, ⟨mk, ms, mp, ?_, box_set_far (box_set_far Q2.out N1.out) N1.out, box_set_far (box_set_far Q3.out N2.out) N2.out, box_set_far (box_set_far Q4.out N3.out) N3.out⟩, (h3.setCell h1 _).setCell h1 _⟩
  exact box_set (box_set Q1.out)

end Go.Proofs.YtgjemeeeignlnaaGreatDoor
/- The ideal oracle: its draws, what it proves and has proved. -/
namespace Go.Proofs.YtgjemeeeignlnaaGreatDoor
open Go.ChangeShapes Go.WideShapes Go.ChangeAt Go.RowKit

/-- At block p: an ideal oracle that was asked nothing; at block mp: the proofs that it has issued, none or one. -/
def OrX (st n : Int) (pr : Option ByteArray) (p mk ms mp : Nat) (w : World) : Prop :=
  w.heap[p]? = some (.cells #[.bool true, .int .u64 st, .int .i64 n, .slice none 0 0, .map (some mk), .map (some ms), .map (some mp)] 71 (0, 0)) ∧ w.heap[mp]? = some (provedM pr)
theorem OrX.keepB {st n : Int} {pr : Option ByteArray} {p mk ms mp : Nat} {w w' : World} (h : OrX st n pr p mk ms mp w) (hb : Below w.heap.size w w') : OrX st n pr p mk ms mp w' := ⟨box_after hb h.1, box_after hb h.2⟩
theorem provedM_ne {pr : Option ByteArray} {cs : Array Value} {t : TypeId} {f : Nat × Nat} : provedM pr ≠ .cells cs t f := by cases pr <;> intro h <;> cases h
theorem OrX.ne {st n : Int} {pr : Option ByteArray} {p mk ms mp : Nat} {w : World} (h : OrX st n pr p mk ms mp w) : mp ≠ p := fun e => by
  have h2 := h.2
  rw [e, h.1] at h2
  exact provedM_ne (Option.some.inj h2).symm
def nextS (st : Int) : Int := IntKind.u64.wrap (st + 11400714819323198485)
def mixZ (z k : Int) : Int := bits BinOp.xor IntKind.u64 z (z / k)
def drawZ (z : Int) : Int := (mixZ (IntKind.u64.wrap (mixZ (IntKind.u64.wrap (mixZ z 1073741824 * 13787848793156543929)) 134217728 * 10723151780598845931)) 2147483648).tmod 18446744069414584321
theorem wrapU_in (x : Int) : 0 ≤ IntKind.u64.wrap x ∧ IntKind.u64.wrap x < 18446744073709551616 := by rw [IntKind.wrap_u64]; omega
theorem mixZ_in (z k : Int) : 0 ≤ mixZ z k := (wrapU_in _).1
theorem drawZ_in (z : Int) : 0 ≤ drawZ z ∧ drawZ z < 18446744069414584321 := ⟨Int.tmod_nonneg _ (mixZ_in _ _), Int.tmod_lt_of_pos _ (by omega)⟩
set_option maxRecDepth 100000 in
set_option maxHeartbeats 1000000 in
theorem draw_any (w : World) (st n : Int) (n0 : 0 ≤ n) (n1 : n < 1000000) (pr : Option ByteArray) (p mk ms mp : Nat) (h : OrX st n pr p mk ms mp w) :
    Calls Tryz.prog 45 #[.pointer (some ⟨p, 0, none⟩)] w fun e w' => e = .returned (.int .u64 (drawZ (nextS st))) ∧ OrX (nextS st) (n + 1) pr p mk ms mp w' ∧ Kept (fun k => k ≠ p) w w' := by
  have HN := Lib.hid h.ne
  have H := Lib.hid h
  obtain ⟨x0, x1⟩ := box_cells h.1
  clear h
  go_enter Tryz.func45, Tryz.ntmps45
  go_wp2
  go_ret
  refine ⟨rfl, ⟨box_set (box_set H.out.1), box_set_far (box_set_far H.out.2 HN.out) HN.out⟩, ?_⟩
  exact ((Kept.refl _ _).setCell (fun _ h => h rfl) _).setCell (fun _ h => h rfl) _
def stN (st : Int) : Nat → Int
  | 0 => st
  | k + 1 => nextS (stN st k)
def drawsL (st : Int) : Nat → List Int
  | 0 => []
  | k + 1 => drawsL st k ++ [drawZ (nextS (stN st k))]
theorem drawsL_len (st : Int) : ∀ k, (drawsL st k).length = k
  | 0 => rfl
  | k + 1 => by simp [drawsL, drawsL_len st k]
theorem drawsL_in (st : Int) : ∀ k, ∀ x ∈ drawsL st k, 0 ≤ x ∧ x < 18446744069414584321
  | 0, x, h => by simp [drawsL] at h
  | k + 1, x, h => by
    simp only [drawsL, List.mem_append, List.mem_singleton] at h
    rcases h with h | rfl
    · exact drawsL_in st k x h
    · exact drawZ_in _
theorem drawsL_ok (st : Int) (k : Nat) : ∀ x ∈ drawsL st k, okU x := fun x h => okU_of (drawsL_in st k x h).1 (Int.lt_trans (drawsL_in st k x h).2 (by omega))
set_option maxRecDepth 100000 in
set_option maxHeartbeats 2000000 in
theorem take_any (w : World) (st n : Int) (n0 : 0 ≤ n) (n1 : n < 100000) (pr : Option ByteArray) (p mk ms mp : Nat) (h : OrX st n pr p mk ms mp w) (N : Nat) (hN : N ≤ 100000) :
    Calls Tryz.prog 26 #[.pointer (some ⟨p, 0, none⟩), .int .i64 N] w fun e w' => ∃ a cap, e = .returned (.slice a N cap) ∧ numsR.rel (fun k => w.heap.size ≤ k) w' [.slice a N cap] (drawsL st N) ∧ OrX (stN st N) (n + N) pr p mk ms mp w' ∧ Kept (fun k => k ≠ p) w w' := by
  have HPL := Lib.hid (box_lt h.1)
  have H := Lib.hid h
  clear h
  go_enter Tryz.func26, Tryz.ntmps26
  go_wp2_with (at_make; refine wpList_make_cells rfl _ _ rfl Tryz.etyNums (z := .int .u64 0) (by kernel_rfl) (n := N) rfl rfl rfl rfl ?_ ?_ ?_)
  · omega
  · unfold maxLen; omega
  have hg3 := box_new w (.cells (rowS [] N).toArray 24)
  have hb3 := bnew (Below.refl w.heap.size w) (.cells (rowS [] N).toArray 24)
  rw [madeRow]
  have HG3 := Lib.hid hg3
  have HB3 := Lib.hid hb3
  have HX3 := Lib.hid (H.out.keepB hb3)
  generalize w.alloc (.cells (rowS [] N).toArray 24) = w3 at *
  clear hg3 hb3
  obtain ⟨G, hG⟩ : ∃ G, w.heap.size = G := ⟨_, rfl⟩
  have HGW := Lib.hid hG
  rw [hG] at HG3 HB3 HPL ⊢
  clear hG
  go_wp2_with fail
  go_loopw [11] (fun vi wr => ∃ (k : Nat), k ≤ N ∧ vi = .int .i64 k ∧ Hid (OrX (stN st k) (n + k) pr p mk ms mp wr) ∧ Kept (fun i => i ≠ p) w wr ∧ wr.heap[G]? = some (.cells (rowS (drawsL st k) (N - k)).toArray 24 (0, 0))) (fun vi _ => N - (intOf vi).toNat)
  case atStart => exact ⟨0, Nat.zero_le _, rfl, by have := HX3.out; show OrX _ _ _ _ _ _ _ _; simpa [stN] using this, (Kept.of_below (by rw [HGW.out]; exact HB3.out)), HG3.out⟩
  case round =>
    obtain ⟨k, hk, rfl, hox, hkr, hrow⟩ := hrel
    by_cases hks : k < N
    · obtain ⟨j, hj⟩ : ∃ j, N - k = j + 1 := ⟨N - k - 1, by omega⟩
      have hj2 : N - (k + 1) = j := by omega
      rw [hj] at hrow
      have HROW := Lib.hid hrow
      have HKR := Lib.hid hkr
      have HJ := Lib.hid hj2
      clear hrow hkr hj hj2
      go_wp2_with fail
      refine (draw_any wr (stN st k) (n + k) (by omega) (by omega) pr p mk ms mp hox.out).mono ?_
      rintro e w4 ⟨rfl, ho4, hk4⟩
      have hacc := drawsL_len st k
      have hdr : drawsL st (k + 1) = drawsL st k ++ [drawZ (nextS (stN st k))] := rfl
      have hst : stN st (k + 1) = nextS (stN st k) := rfl
      have HD := Lib.hid hdr
      have HST := Lib.hid hst
      have hxz := drawZ_in (nextS (stN st k))
      have hnn : (n : Int) + k + 1 = n + ((k + 1 : Nat) : Int) := by omega
      rw [hnn, ← hst] at ho4
      clear hdr hst hnn
      generalize drawZ (nextS (stN st k)) = x at *
      have hrow4 := box_kept hk4 HROW.out (show G ≠ p by have := HPL.out; omega)
      obtain ⟨d0, d1⟩ := box_cells hrow4
      have hset := rowS_set (drawsL st k) j x
      rw [hacc] at hset
      have hnew := box_set (i := k) (v := .int .u64 x) hrow4
      rw [hset, ← HD.out] at hnew
      have HNEW := Lib.hid hnew
      have hck : w4.cell? ⟨G, k, none⟩ = some (.int .u64 0) := by rw [d0]; simp [rowS, hacc]
      have hgk := World.cell?_setCell_same w4 ⟨G, k, none⟩ (.int .u64 x) hck
      have hGp : G ≠ p := by have := HPL.out; omega
      have hmG : mp ≠ G := fun e => by
        have h2 := ho4.2
        rw [e, hrow4] at h2
        exact provedM_ne (Option.some.inj h2).symm
      have HO5 : Hid (OrX (stN st (k + 1)) (n + ((k + 1 : Nat) : Int)) pr p mk ms mp (w4.setCell ⟨G, k, none⟩ (.int .u64 x))) := ⟨box_set_far ho4.1 (Ne.symm hGp), box_set_far ho4.2 hmG⟩
      have HK5 : Hid (Kept (fun i => i ≠ p) w (w4.setCell ⟨G, k, none⟩ (.int .u64 x))) := (kept_next HKR.out hk4).setCell (fun h => by have h' : G < w.heap.size := h; have := HGW.out; omega) _
      clear hnew hrow4 d0 hset hmG hGp ho4 hk4 hacc hxz
      go_wp2_with fail
      go_roundw
      case rel => exact ⟨k + 1, by omega, by go_num, HO5, HK5.out, by rw [HJ.out]; exact HNEW.out⟩
      case measure => simp [intOf]; omega
    · obtain rfl : k = N := by omega
      rw [Nat.sub_self, rowS_zero] at hrow
      have hl := drawsL_len st k
      have hown : Own (intR .u64) w.heap.size 24 (fun x => False ∨ w.heap.size ≤ x) wr (.slice (some ⟨G, 0, none⟩) (drawsL st k).length (drawsL st k).length) (drawsL st k) :=
        own_ints (cur := (drawsL st k).map (Value.int .u64)) hrow (by rw [List.length_map]) (List.take_of_length_le (by rw [List.length_map]; exact Nat.le_refl _)) (drawsL_ok st k) (Nat.le_refl _) (by unfold maxLen; omega) (by have := HGW.out; omega)
      have hsl := numsR.mono hown.slice (S' := fun i => w.heap.size ≤ i) (fun i _ h => h.resolve_left id)
      rw [hl] at hsl
      have HS := Lib.hid hsl
      have HK := Lib.hid hkr
      clear hown hrow hsl hl hkr
      go_wp2_with fail
      go_ret
      exact ⟨_, _, rfl, HS.out, hox.out, HK.out⟩
/-- Only the map of proofs may have changed. -/
abbrev PrS (p mp : Nat) (K : ByteArray) (w w' : World) : Prop := Kept (fun k => k ≠ mp) w w' ∧ w'.cell? ⟨p, 6, none⟩ = some (.map (some mp)) ∧ PrIn mp K w'
theorem PrIn.keep {mp : Nat} {K : ByteArray} {w w' : World} (h : PrIn mp K w) (hb : Below w.heap.size w w') : PrIn mp K w' := h.elim (fun h => .inl (box_after hb h)) fun h => .inr (box_after hb h)
theorem PrIn.lt {mp : Nat} {K : ByteArray} {w : World} (h : PrIn mp K w) : mp < w.heap.size := h.elim box_lt box_lt
theorem PrS.drew {p mp : Nat} {K : ByteArray} {w w' : World} (h : PrS p mp K w w') : PrS p mp K w w'.drew := ⟨h.1.drew, h.2.1, h.2.2⟩
theorem PrS.next {p mp : Nat} {K : ByteArray} {w w1 w2 : World} (h : PrS p mp K w w1) (hb : Below w1.heap.size w1 w2) : PrS p mp K w w2 := ⟨kept_next h.1 (Kept.of_below hb), (hb.cell (cell_lt h.2.1)).trans h.2.1, h.2.2.keep hb⟩
theorem PrS.alloc {p mp : Nat} {K : ByteArray} {w w1 : World} (h : PrS p mp K w w1) (o : Obj) : PrS p mp K w (w1.alloc o) := h.next (bnew (Below.refl _ _) o)
theorem kept_setHeap (w : World) (mp : Nat) (o : Obj) : Kept (fun k => k ≠ mp) w { w with heap := w.heap.setIfInBounds mp o } :=
  ⟨rfl, rfl, rfl, by simp, fun i _ h => by simp [Ne.symm h]⟩
theorem PrS.set {p mp : Nat} {K : ByteArray} {w w1 : World} (h : PrS p mp K w w1) (hn : mp ≠ p) : PrS p mp K w { w1 with heap := w1.heap.setIfInBounds mp (provedM (some K)) } :=
  ⟨kept_next h.1 (kept_setHeap w1 mp _), ((kept_setHeap w1 mp (provedM (some K))).cell (p := ⟨p, 6, none⟩) (Ne.symm hn) h.2.1), .inr (by have := h.2.2.lt; simp [this])⟩
set_option maxRecDepth 100000 in
set_option maxHeartbeats 2000000 in
theorem prove_any (w : World) (st : Int) (p mk ms mp : Nat) (h : OrX st 0 none p mk ms mp w) (dg : Int) (d0 : okU dg) (N : Nat) (hN : N ≤ 1000) :
    Calls Tryz.prog 9 #[.pointer (some ⟨p, 0, none⟩), .int .u64 dg, .int .i64 N] w fun e w' => ∃ a cap, e = .returned (.slice a N cap) ∧ numsR.rel (fun k => w.heap.size ≤ k) w' [.slice a N cap] (drawsL st N) ∧
      OrX (stN st N) N (some (keyS [dg] (drawsL st N))) p mk ms mp w' ∧ Kept (fun k => k ≠ p ∧ k ≠ mp) w w' := by
  have H := Lib.hid h
  obtain ⟨x0, x1⟩ := box_cells h.1
  clear h
  go_enter Tryz.func9, Tryz.ntmps9
  go_wp2_with fail
  refine (take_any w st 0 (by omega) (by omega) none p mk ms mp H.out N (by omega)).mono ?_
  rintro e w1 ⟨a1, c1, rfl, hr1, ho1, hk1⟩
  have hl := drawsL_len st N
  have e0 : (0 : Int) + N = N := by omega
  rw [e0] at ho1
  obtain ⟨L, hLe⟩ : ∃ L, drawsL st N = L := ⟨_, rfl⟩
  obtain ⟨st', hSe⟩ : ∃ s, stN st N = s := ⟨_, rfl⟩
  have HLE := Lib.hid hLe
  have HSE := Lib.hid hSe
  rw [hLe] at hr1 hl
  rw [hSe] at ho1
  clear hLe hSe
  have HR1 := Lib.hid hr1
  have HO1 := Lib.hid ho1
  have HK1 := Lib.hid hk1
  have HL := Lib.hid hl
  have hst : PrS p mp (keyS [dg] L) w1 w1 := ⟨Kept.refl _ _, (box_cells ho1.1).1 6, .inl ho1.2⟩
  have HST := Lib.hid hst
  have HN := Lib.hid ho1.ne
  have HML := Lib.hid (box_lt H.out.2)
  have hup := @update_proved
  clear hst x0 x1 hr1 ho1 hk1 hl e0
  go_wp2_with fail
  go_region_held3 (fun w' => Kept (fun k => k ≠ mp) w1 w' ∧ w'.cell? ⟨p, 6, none⟩ = some (.map (some mp)) ∧ PrIn mp (keyS [dg] L) w')
    (first
      | with_reducible exact PrS.drew HST.out
      | with_reducible exact HK.out
      | with_reducible exact PrS.set HK.out HN.out
      | with_reducible exact PrS.drew (PrS.alloc HST.out _))
    (first
      | (go_at_call 27
         refine (keyX_len (fun i => w.heap.size ≤ i) (fun _ => True) _ a1 _ N c1 _ L dg HL.out (numsR.keep HR1.out ((‹Kept (fun k => k ≠ mp) w1 _ ∧ _› : PrS p mp (keyS [dg] L) w1 _).1.mono fun k _ h => by have h' : w.heap.size ≤ k := h; have := HML.out; omega)) (numsR.keepB (nums_new w1 _ [dg] 1 (by intro x hx; simp at hx; subst hx; exact d0) (by simp) (by unfold maxLen; omega)) (Below.refl _ _).drew) (by omega)).mono ?_
         rintro e w3 ⟨rfl, hbK⟩
         have HK := Lib.hid (PrS.next (‹Kept (fun k => k ≠ mp) w1 _ ∧ _› : PrS p mp (keyS [dg] L) w1 _) hbK)))
  have hF := PrS.set HK.out HN.out
  have HOF : Hid (OrX st' N (some (keyS [dg] L)) p mk ms mp { w3 with heap := w3.heap.setIfInBounds mp (provedM (some (keyS [dg] L))) }) :=
    ⟨box_kept hF.1 HO1.out.1 (Ne.symm HN.out), by have := HK.out.2.2.lt; simp [this]⟩
  have HKF : Hid (Kept (fun k => k ≠ p ∧ k ≠ mp) w { w3 with heap := w3.heap.setIfInBounds mp (provedM (some (keyS [dg] L))) }) := (HK1.out.mono fun _ _ h => h.1).trans hF.1 (fun _ _ h => h.2)
  clear hF
  generalize { w3 with heap := w3.heap.setIfInBounds mp (provedM (some (keyS [dg] L))) } = w4 at *
  have HR4 : Hid (numsR.rel (fun i => w.heap.size ≤ i) w4 [.slice a1 N c1] L) := numsR.keep HR1.out ((‹Kept (fun k => k ≠ mp) w1 w4 ∧ _› : PrS p mp (keyS [dg] L) w1 w4).1.mono fun k _ h => by have h' : w.heap.size ≤ k := h; have := HML.out; omega)
  go_wp2_with fail
  go_ret
  rw [HLE.out, HSE.out]
  exact ⟨_, _, rfl, HR4.out, HOF.out, HKF.out⟩
/-- Nothing that was in w has changed; the oracle is there. -/
abbrev PvS (p mp : Nat) (pr : Option ByteArray) (w w' : World) : Prop := Below w.heap.size w w' ∧ w'.cell? ⟨p, 0, none⟩ = some (.bool true) ∧ w'.cell? ⟨p, 6, none⟩ = some (.map (some mp)) ∧ w'.heap[mp]? = some (provedM pr)
theorem PvS.drew {p mp : Nat} {pr : Option ByteArray} {w w' : World} (h : PvS p mp pr w w') : PvS p mp pr w w'.drew := ⟨h.1.drew, h.2.1, h.2.2.1, h.2.2.2⟩
theorem PvS.next {p mp : Nat} {pr : Option ByteArray} {w w1 w2 : World} (h : PvS p mp pr w w1) (hb : Below w1.heap.size w1 w2) : PvS p mp pr w w2 := ⟨bnext h.1 hb, (hb.cell (cell_lt h.2.1)).trans h.2.1, (hb.cell (cell_lt h.2.2.1)).trans h.2.2.1, box_after hb h.2.2.2⟩
theorem PvS.alloc {p mp : Nat} {pr : Option ByteArray} {w w1 : World} (h : PvS p mp pr w w1) (o : Obj) : PvS p mp pr w (w1.alloc o) := h.next (bnew (Below.refl _ _) o)
set_option maxRecDepth 100000 in
set_option maxHeartbeats 2000000 in
theorem proved_any (S : Nat → Prop) (w : World) (st n : Int) (pr : Option ByteArray) (p mk ms mp : Nat) (h : OrX st n pr p mk ms mp w) (dg : Int) (d0 : okU dg) (a : Option Addr) (len cap : Nat) (L : List Int) (hlen : L.length = len) (hr : numsR.rel S w [.slice a len cap] L) (hl : len ≤ 1000) :
    Calls Tryz.prog 96 #[.pointer (some ⟨p, 0, none⟩), .int .u64 dg, .slice a len cap] w fun e w' => e = .returned (.bool (decide (pr = some (keyS [dg] L)))) ∧ Below w.heap.size w w' := by
  have hst : PvS p mp pr w w := ⟨Below.refl _ _, (box_cells h.1).1 0, (box_cells h.1).1 6, h.2⟩
  have HST := Lib.hid hst
  have HR1 := Lib.hid hr
  have HL := Lib.hid hlen
  have hlk := fun (w : World) (mk : Nat) => lookup_proved w mk pr
  clear hst h hr hlen
  go_enter Tryz.func96, Tryz.ntmps96
  go_wp2_with fail
  go_region_held3 (fun w' => Below w.heap.size w w' ∧ w'.cell? ⟨p, 0, none⟩ = some (.bool true) ∧ w'.cell? ⟨p, 6, none⟩ = some (.map (some mp)) ∧ w'.heap[mp]? = some (provedM pr))
    (first
      | with_reducible exact PvS.drew HST.out
      | with_reducible exact HK.out
      | with_reducible exact PvS.drew (PvS.alloc HST.out _))
    (first
      | (go_at_call 27
         refine (keyX_len S (fun _ => True) _ a _ len cap _ L dg HL.out (numsR.keepB HR1.out (‹Below w.heap.size w _ ∧ _› : PvS p mp pr w _).1) (numsR.keepB (nums_new w _ [dg] 1 (by intro x hx; simp at hx; subst hx; exact d0) (by simp) (by unfold maxLen; omega)) (Below.refl _ _).drew) (by omega)).mono ?_
         rintro e w3 ⟨rfl, hbK⟩
         have HK := Lib.hid (PvS.next (‹Below w.heap.size w _ ∧ _› : PvS p mp pr w _) hbK)))
  go_wp2_with fail
  go_ret
  exact ⟨rfl, HK.out.1⟩
theorem draws_any (w : World) (st n : Int) (pr : Option ByteArray) (p mk ms mp : Nat) (h : OrX st n pr p mk ms mp w) : Calls Tryz.prog 16 #[.pointer (some ⟨p, 0, none⟩)] w fun e w' => e = .returned (.int .i64 n) ∧ w = w' := by
  obtain ⟨x0, x1⟩ := box_cells h.1
  clear h
  go_enter Tryz.func16, Tryz.ntmps16
  go_wp2
  go_ret
  exact ⟨rfl, rfl⟩
theorem isIdealX (w : World) (st n : Int) (pr : Option ByteArray) (p mk ms mp : Nat) (h : OrX st n pr p mk ms mp w) : Calls Tryz.prog 31 #[.pointer (some ⟨p, 0, none⟩)] w fun e w' => e = .returned (.bool true) ∧ w = w' := by
  obtain ⟨x0, x1⟩ := box_cells h.1
  clear h
  go_enter Tryz.func31, Tryz.ntmps31
  go_wp2
  go_ret
  exact ⟨rfl, rfl⟩
end Go.Proofs.YtgjemeeeignlnaaGreatDoor
/- The program's digest of a statement, exact. -/
namespace Go.Proofs.YtgjemeeeignlnaaGreatDoor
open Go.ChangeShapes Go.WideShapes Go.ChangeAt Go.RowKit Go.Sort

/-- What is hashed of a statement. -/
def maxZ (d : Int) : Int := if d < 0 then 0 else d
def digestL (s : StM) : List Int := [maxZ s.depth, s.anchor, (s.marks.length : Int)] ++ s.marks ++ [(s.commits.length : Int)] ++ s.commits ++ s.rhos ++ [s.dep, s.wd, s.fee, s.acc, s.bind]
theorem digestL_len (s : StM) : (digestL s).length = 9 + s.marks.length + s.commits.length + s.rhos.length := by simp [digestL]; omega
theorem own_new (w : World) (t : TypeId) (l : List Int) (hl : ∀ x ∈ l, okU x) (hm : l.length ≤ 100) : Own u64R w.heap.size t (fun x => False ∨ w.heap.size ≤ x) (w.alloc (.cells (l.map (Value.int .u64)).toArray t)) (.slice (some ⟨w.heap.size, 0, none⟩) l.length l.length) l :=
  own_ints (cur := l.map (Value.int .u64)) (box_new _ _) (by rw [List.length_map]) (List.take_of_length_le (by rw [List.length_map]; exact Nat.le_refl _)) hl (Nat.le_refl _) (by unfold maxLen; omega) (Nat.le_refl _)
set_option maxRecDepth 100000 in
set_option maxHeartbeats 4000000 in
theorem digest_any (S : Nat → Prop) (w : World) (s : StM) (ma ca ra : Option Addr) (mc cc rc : Nat) (hs : StIn S w s ma ca ra mc cc rc) (b1 : s.marks.length ≤ 1000) (b2 : s.commits.length ≤ 1000) (b3 : s.rhos.length ≤ 1000) (hd : s.depth < 9223372036854775808) :
    Calls Tryz.prog 97 #[.agg #[.int .i64 s.depth, .int .u64 s.anchor, .slice ma s.marks.length mc, .slice ca s.commits.length cc, .slice ra s.rhos.length rc, .int .u64 s.dep, .int .u64 s.wd, .int .u64 s.fee, .int .u64 s.acc, .int .u64 s.bind]] w fun e w' => e = .returned (.int .u64 (hashS 24 (digestL s))) ∧ Below w.heap.size w w' := by
  have hbA := bnew (Below.refl w.heap.size w) (.cells #[.int .i64 s.depth, .int .u64 s.anchor, .slice ma s.marks.length mc, .slice ca s.commits.length cc, .slice ra s.rhos.length rc, .int .u64 s.dep, .int .u64 s.wd, .int .u64 s.fee, .int .u64 s.acc, .int .u64 s.bind] 46)
  have HX := Lib.hid (box_new w (.cells #[.int .i64 s.depth, .int .u64 s.anchor, .slice ma s.marks.length mc, .slice ca s.commits.length cc, .slice ra s.rhos.length rc, .int .u64 s.dep, .int .u64 s.wd, .int .u64 s.fee, .int .u64 s.acc, .int .u64 s.bind] 46))
  have HS := Lib.hid (hs.keepB hbA)
  have HBA := Lib.hid hbA
  have HOK : Hid (okU s.dep ∧ okU s.wd ∧ okU s.fee ∧ okU s.acc ∧ okU s.bind) := ⟨hs.dep, hs.wd, hs.fee, hs.acc, hs.bind⟩
  have HOA := Lib.hid hs.anchor
  obtain ⟨E, hE⟩ : ∃ E, maxZ s.depth = E := ⟨_, rfl⟩
  have hE0 : 0 ≤ E ∧ E < 9223372036854775808 := by
    rw [← hE]; unfold maxZ; split <;> omega
  have HE := Lib.hid hE
  have HOE : Hid (okU E) := okU_of hE0.1 (by omega)
  have hwE : IntKind.u64.wrap E = E := by rw [IntKind.wrap_u64]; omega
  have hwM : IntKind.u64.wrap (s.marks.length : Int) = s.marks.length := by rw [IntKind.wrap_u64]; omega
  have hwC : IntKind.u64.wrap (s.commits.length : Int) = s.commits.length := by rw [IntKind.wrap_u64]; omega
  have hME : (if (0 : Int) > s.depth then 0 else s.depth) = E := hE
  clear hbA hs hE
  go_enter Tryz.func97, Tryz.ntmps97
  go_upto_region 1 with (fail)
  generalize w.alloc (.cells #[.int .i64 s.depth, .int .u64 s.anchor, .slice ma s.marks.length mc, .slice ca s.commits.length cc, .slice ra s.rhos.length rc, .int .u64 s.dep, .int .u64 s.wd, .int .u64 s.fee, .int .u64 s.acc, .int .u64 s.bind] 46) = W at *
  obtain ⟨x0, x1⟩ := box_cells HX.out
  go_upto_region 2 with (fail)
  have HO0 := Lib.hid (own_new W 24 [E, s.anchor, (s.marks.length : Int)] (by intro x hx; simp at hx; rcases hx with rfl | rfl | rfl; exact HOE.out; exact HOA.out; exact okU_of (by omega) (by omega)) (by simp))
  have HB0 := Lib.hid (bnew (Below.refl W.heap.size W) (.cells #[.int .u64 E, .int .u64 s.anchor, .int .u64 s.marks.length] 24))
  obtain ⟨l0, hl0⟩ : ∃ l, [E, s.anchor, (s.marks.length : Int)] = l := ⟨_, rfl⟩
  have HE0 := Lib.hid hl0
  have HLN0 : Hid (l0.length ≤ 1000) := by show _ ≤ _; rw [← hl0]; simp
  have HO0' : Hid (Own u64R W.heap.size 24 (fun x => False ∨ W.heap.size ≤ x) (W.alloc (.cells #[.int .u64 E, .int .u64 s.anchor, .int .u64 s.marks.length] 24)) (.slice (some ⟨W.heap.size, 0, none⟩) 3 3) l0) := by rw [← hl0]; exact HO0.out
  have HO0 := HO0'
  clear hl0 HO0'
  generalize W.alloc (.cells #[.int .u64 E, .int .u64 s.anchor, .int .u64 s.marks.length] 24) = w0 at *
  generalize Value.slice (some ⟨W.heap.size, 0, none⟩) 3 3 = v0 at *
  clear x0 x1
  obtain ⟨x0, x1⟩ := box_cells (box_after HB0.out HX.out)
  have hB0 := HB0.out.size
  have HC0 : Hid (numsR.rel S w0 [.slice ma s.marks.length mc] s.marks) := numsR.keepB HS.out.marks HB0.out
  go_wp2_with (at_builtin; go_loud (refine wpList_cat (k := .u64) (v := v0) (u := .slice ma s.marks.length mc) (w0 := W) (B := W.heap.size) (wr := w0) (ys := s.marks) rfl _ _ rfl Tryz.etyNums rfl rfl HB0.out hB0 HO0.out HC0.out (by unfold maxLen; have := HLN0.out; omega) (by have := HLN0.out; omega) ?_))
  intro v1 w1 ho hb
  have HO1 : Hid (Own u64R W.heap.size 24 (fun x => False ∨ W.heap.size ≤ x) w1 v1 (l0 ++ s.marks)) := Own.mono ho fun x _ h => by first | exact h | exact .inr h
  have HB1 := Lib.hid hb
  obtain ⟨l1, hle⟩ : ∃ l, l0 ++ s.marks = l := ⟨_, rfl⟩
  have HE1 := Lib.hid hle
  have HLN1 : Hid (l1.length ≤ 2000) := by show _ ≤ _; have := HLN0.out; rw [← hle, List.length_append]; omega
  rw [hle] at HO1
  clear ho hb hle x0 x1 hB0
  obtain ⟨x0, x1⟩ := box_cells (box_after HB1.out HX.out)
  have hB1 := HB1.out.size
  have HC1 : Hid (u64R.rel (fun _ => False) w1 [.int .u64 ((s.commits.length : Int))] ((s.commits.length : Int))) := ⟨rfl, okU_of (by omega) (by omega)⟩
  go_wp2_with (at_builtin; go_loud (refine wpList_push (r := u64R) (v := v1) (wr := w1) (es := [.int .u64 ((s.commits.length : Int))]) (w0 := W) (B := W.heap.size) rfl _ _ rfl Tryz.etyNums rfl rfl HB1.out hB1 HO1.out HC1.out (fun x hx => hx.elim) (by unfold maxLen; have := HLN1.out; omega) (by have := HLN1.out; omega) ?_))
  intro v2 w2 ho hb
  have HO2 : Hid (Own u64R W.heap.size 24 (fun x => False ∨ W.heap.size ≤ x) w2 v2 (l1 ++ [(s.commits.length : Int)])) := Own.mono ho fun x _ h => by first | exact h | exact .inr h
  have HB2 := Lib.hid hb
  obtain ⟨l2, hle⟩ : ∃ l, l1 ++ [(s.commits.length : Int)] = l := ⟨_, rfl⟩
  have HE2 := Lib.hid hle
  have HLN2 : Hid (l2.length ≤ 3000) := by show _ ≤ _; have := HLN1.out; rw [← hle, List.length_append]; simp; omega
  rw [hle] at HO2
  clear ho hb hle x0 x1 hB1
  obtain ⟨x0, x1⟩ := box_cells (box_after HB2.out HX.out)
  have hB2 := HB2.out.size
  have HC2 : Hid (numsR.rel S w2 [.slice ca s.commits.length cc] s.commits) := numsR.keepB HS.out.commits HB2.out
  go_wp2_with (at_builtin; go_loud (refine wpList_cat (k := .u64) (v := v2) (u := .slice ca s.commits.length cc) (w0 := W) (B := W.heap.size) (wr := w2) (ys := s.commits) rfl _ _ rfl Tryz.etyNums rfl rfl HB2.out hB2 HO2.out HC2.out (by unfold maxLen; have := HLN2.out; omega) (by have := HLN2.out; omega) ?_))
  intro v3 w3 ho hb
  have HO3 : Hid (Own u64R W.heap.size 24 (fun x => False ∨ W.heap.size ≤ x) w3 v3 (l2 ++ s.commits)) := Own.mono ho fun x _ h => by first | exact h | exact .inr h
  have HB3 := Lib.hid hb
  obtain ⟨l3, hle⟩ : ∃ l, l2 ++ s.commits = l := ⟨_, rfl⟩
  have HE3 := Lib.hid hle
  have HLN3 : Hid (l3.length ≤ 4000) := by show _ ≤ _; have := HLN2.out; rw [← hle, List.length_append]; omega
  rw [hle] at HO3
  clear ho hb hle x0 x1 hB2
  obtain ⟨x0, x1⟩ := box_cells (box_after HB3.out HX.out)
  have hB3 := HB3.out.size
  have HC3 : Hid (numsR.rel S w3 [.slice ra s.rhos.length rc] s.rhos) := numsR.keepB HS.out.rhos HB3.out
  go_wp2_with (at_builtin; go_loud (refine wpList_cat (k := .u64) (v := v3) (u := .slice ra s.rhos.length rc) (w0 := W) (B := W.heap.size) (wr := w3) (ys := s.rhos) rfl _ _ rfl Tryz.etyNums rfl rfl HB3.out hB3 HO3.out HC3.out (by unfold maxLen; have := HLN3.out; omega) (by have := HLN3.out; omega) ?_))
  intro v4 w4 ho hb
  have HO4 : Hid (Own u64R W.heap.size 24 (fun x => False ∨ W.heap.size ≤ x) w4 v4 (l3 ++ s.rhos)) := Own.mono ho fun x _ h => by first | exact h | exact .inr h
  have HB4 := Lib.hid hb
  obtain ⟨l4, hle⟩ : ∃ l, l3 ++ s.rhos = l := ⟨_, rfl⟩
  have HE4 := Lib.hid hle
  have HLN4 : Hid (l4.length ≤ 5000) := by show _ ≤ _; have := HLN3.out; rw [← hle, List.length_append]; omega
  rw [hle] at HO4
  clear ho hb hle x0 x1 hB3
  obtain ⟨x0, x1⟩ := box_cells (box_after HB4.out HX.out)
  have hbn := bnew (Below.refl w4.heap.size w4) (.cells #[.int .u64 s.dep, .int .u64 s.wd, .int .u64 s.fee, .int .u64 s.acc, .int .u64 s.bind] 24)
  have HC4 := Lib.hid (nums_new w4 24 [s.dep, s.wd, s.fee, s.acc, s.bind] 5 (by intro x hx; simp at hx; rcases hx with rfl | rfl | rfl | rfl | rfl; exact HOK.out.1; exact HOK.out.2.1; exact HOK.out.2.2.1; exact HOK.out.2.2.2.1; exact HOK.out.2.2.2.2) (by simp) (by unfold maxLen; omega))
  have HBN := Lib.hid (bnext HB4.out hbn)
  have HON := Lib.hid (HO4.out.keepB hbn)
  have hB4 := HBN.out.size
  clear hbn
  go_wp2_with (at_builtin; go_loud (refine wpList_cat (k := .u64) (v := v4) (u := .slice (some ⟨w4.heap.size, 0, none⟩) 5 5) (w0 := W) (B := W.heap.size) (wr := w4.alloc (.cells #[.int .u64 s.dep, .int .u64 s.wd, .int .u64 s.fee, .int .u64 s.acc, .int .u64 s.bind] 24)) (ys := [s.dep, s.wd, s.fee, s.acc, s.bind]) rfl _ _ rfl Tryz.etyNums rfl rfl HBN.out hB4 HON.out HC4.out (by unfold maxLen; have := HLN4.out; simp; omega) (by have := HLN4.out; simp; omega) ?_))
  intro v5 w5 ho hb
  have HO5 : Hid (Own u64R W.heap.size 24 (fun x => False ∨ W.heap.size ≤ x) w5 v5 (l4 ++ [s.dep, s.wd, s.fee, s.acc, s.bind])) := Own.mono ho fun x _ h => by first | exact h | exact .inr h
  have HB5 := Lib.hid hb
  obtain ⟨l5, hle⟩ : ∃ l, l4 ++ [s.dep, s.wd, s.fee, s.acc, s.bind] = l := ⟨_, rfl⟩
  have HE5 := Lib.hid hle
  have HLN5 : Hid (l5.length ≤ 6000) := by show _ ≤ _; have := HLN4.out; rw [← hle, List.length_append]; simp; omega
  rw [hle] at HO5
  clear ho hb hle x0 x1 hB4
  have HL : Hid (l5 = digestL s) := by
    show _ = _
    rw [← HE5.out, ← HE4.out, ← HE3.out, ← HE2.out, ← HE1.out, ← HE0.out, ← HE.out]; rfl
  obtain ⟨va, vc, rfl, -, -⟩ := sliceR.form HO5.out.slice
  have HH := Lib.hid HO5.out.slice
  have HLL : Hid (l5.length ≤ 1000000) := by show _ ≤ _; rw [HL.out, digestL_len]; omega
  go_wp2_with fail
  refine (Hash_big 24 (by omega) _ w5 va vc l5 HH.out HLL.out).mono ?_
  rintro e w6 ⟨rfl, hb6⟩
  rw [HL.out]
  go_wp2_with fail
  go_ret
  exact ⟨rfl, bnext HBA.out (bnext HB5.out hb6)⟩
end Go.Proofs.YtgjemeeeignlnaaGreatDoor
