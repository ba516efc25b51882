/- The wire's reader. -/
import Derived.Test.YthggdacincfplaaGreatDoorWireB
import Derived.Laws.Bits64b
namespace Go.Proofs.YthggdacincfplaaGreatDoor
open Go.ChangeShapes Go.WideShapes Go.ChangeAt Go.RowKit

structure RdM where
  bytes : List Int
  pos : Nat
  failed : Bool
/-- At block p: a reader. -/
def RdAt (p : Nat) (w : World) (r : RdM) : Prop :=
  ∃ a cap, w.heap[p]? = some (.cells #[.slice a r.bytes.length cap, .int .i64 r.pos, .bool r.failed] 199 (0, 0)) ∧ bytesR.rel (fun k => k < p) w [.slice a r.bytes.length cap] r.bytes ∧ r.pos ≤ r.bytes.length ∧ r.bytes.length ≤ 1000000
theorem RdAt.keep {p : Nat} {w w' : World} {r : RdM} (h : RdAt p w r) (hk : Below w.heap.size w w') : RdAt p w' r := by
  obtain ⟨a, cap, h1, h2, h3⟩ := h
  exact ⟨a, cap, box_after hk h1, bytesR.keepB h2 hk, h3⟩
theorem RdAt.kept {p : Nat} {w w' : World} {r : RdM} (h : RdAt p w r) (hk : Kept (fun k => k ≤ p) w w') : RdAt p w' r := by
  obtain ⟨a, cap, h1, h2, h3⟩ := h
  exact ⟨a, cap, box_kept hk h1 (Nat.le_refl _), bytesR.keep h2 (hk.mono fun k _ h => Nat.le_of_lt h), h3⟩
/-- The reader at p has been turned to r; nothing else has changed. -/
def RdTo (p : Nat) (w : World) (r : RdM) (w' : World) : Prop := RdAt p w' r ∧ Kept (fun k => k ≠ p) w w'
theorem kept_next {S : Nat → Prop} {a b c : World} (h : Kept S a b) (k : Kept S b c) : Kept S a c := h.trans k fun _ _ h => h
theorem RdTo.next {p : Nat} {w w1 w2 : World} {r r' : RdM} (h : RdTo p w r w1) (k : RdTo p w1 r' w2) : RdTo p w r' w2 := ⟨k.1, kept_next h.2 k.2⟩

set_option maxHeartbeats 400000 in
theorem newReader_any (S : Nat → Prop) (w : World) (a : Option Addr) (cap : Nat) (xs : List Int) (h : bytesR.rel S w [.slice a xs.length cap] xs) (hx : xs.length ≤ 1000000) :
    Calls Tryz.prog 39 #[.slice a xs.length cap] w fun e w' => ∃ p, e = .returned (.pointer (some ⟨p, 0, none⟩)) ∧ w.heap.size ≤ p ∧ RdAt p w' ⟨xs, 0, false⟩ ∧ Below w.heap.size w w' := by
  go_enter Tryz.func39, Tryz.ntmps39
  go_wp2_with fail
  refine (room_any S w a cap xs h 0 (by omega)).mono ?_
  rintro e w1 ⟨v, rfl, ho, hb⟩
  have hs := ho.slice
  obtain ⟨a1, c1, rfl, -⟩ := sliceR.form hs
  have HB := Lib.hid (bnew (Below.refl w1.heap.size w1) (.cells #[.slice a1 xs.length c1, .int .i64 0, .bool false] 199))
  have HX := Lib.hid (box_new w1 (.cells #[.slice a1 xs.length c1, .int .i64 0, .bool false] 199))
  have HS := Lib.hid (bytesR.bound hs)
  have HR := Lib.hid hb
  clear ho hs hb
  go_wp2_with fail
  go_ret
  refine ⟨w1.heap.size, by simp, HR.out.size, ⟨a1, c1, HX.out, ?_, Nat.zero_le _, hx⟩, bnext HR.out HB.out⟩
  exact bytesR.mono (bytesR.keepB HS.out HB.out) fun k _ hk => hk.2

def RdM.fail (r : RdM) : RdM := ⟨r.bytes, r.pos, true⟩
def RdM.to (r : RdM) (n : Nat) : RdM := ⟨r.bytes, r.pos + n, r.failed⟩
/-- May some bytes be read? -/
def RdM.bad (r : RdM) (size : Nat) : Bool := r.failed || decide (r.bytes.length < r.pos + size)
def RdM.num (r : RdM) (size : Nat) : Int := leN ((r.bytes.drop r.pos).take size)

theorem left_any (w : World) (p : Nat) (r : RdM) (h : RdAt p w r) : Calls Tryz.prog 91 #[.pointer (some ⟨p, 0, none⟩)] w fun e w' => e = .returned (.int .i64 (r.bytes.length - r.pos : Nat)) ∧ Below w.heap.size w w' := by
  obtain ⟨a, cap, h1, h2, h3, h4⟩ := h
  obtain ⟨c0, c1⟩ := box_cells h1
  clear h1 h2
  go_enter Tryz.func91, Tryz.ntmps91
  go_wp2_with fail
  go_quiet (fail)
  go_wp2_with fail
  go_ret
  exact ⟨ret_int (by omega), bdrewN (Below.refl _ _) _⟩
theorem RdM.num_step (r : RdM) (k : Nat) (h : r.pos + k < r.bytes.length) : r.num (k + 1) = r.num k + r.bytes[r.pos + k] * 256 ^ k := by
  unfold RdM.num
  have hk : k < (r.bytes.drop r.pos).length := by rw [List.length_drop]; omega
  rw [List.take_succ_eq_append_getElem hk, leN_snoc, List.length_take, Nat.min_eq_left (by omega), List.getElem_drop]
theorem RdM.num_in {r : RdM} (hb : ∀ d ∈ r.bytes, 0 ≤ d ∧ d < 256) (k : Nat) (h : r.pos + k ≤ r.bytes.length) : 0 ≤ r.num k ∧ r.num k < 256 ^ k := by
  have := leN_in ((r.bytes.drop r.pos).take k) fun d hd => hb d (List.mem_of_mem_drop (List.mem_of_mem_take hd))
  rwa [List.length_take, List.length_drop, Nat.min_eq_left (by omega)] at this

theorem RdAt.fail {p : Nat} {w : World} {r : RdM} (h : RdAt p w r) : RdTo p w r.fail (w.setCell ⟨p, 2, none⟩ (.bool true)) := by
  obtain ⟨a, cap, h1, h2, h3⟩ := h
  have hk : Kept (fun k => k ≠ p) w (w.setCell ⟨p, 2, none⟩ (.bool true)) := (Kept.refl _ _).setCell (fun _ h => h rfl) _
  exact ⟨⟨a, cap, box_set h1, bytesR.keep h2 (hk.mono fun k _ h => Nat.ne_of_lt h), h3⟩, hk⟩
theorem RdAt.to {p : Nat} {w : World} {r : RdM} (h : RdAt p w r) (n : Nat) (hn : r.pos + n ≤ r.bytes.length) : RdTo p w (r.to n) (w.setCell ⟨p, 1, none⟩ (.int .i64 (r.pos + n : Nat))) := by
  obtain ⟨a, cap, h1, h2, h3, h4⟩ := h
  have hk : Kept (fun k => k ≠ p) w (w.setCell ⟨p, 1, none⟩ (.int .i64 (r.pos + n : Nat))) := (Kept.refl _ _).setCell (fun _ h => h rfl) _
  exact ⟨⟨a, cap, box_set h1, bytesR.keep h2 (hk.mono fun k _ h => Nat.ne_of_lt h), hn, h4⟩, hk⟩
theorem RdTo.of {p : Nat} {w w1 w2 : World} {r : RdM} (hb : Below w.heap.size w w1) (h : RdTo p w1 r w2) : RdTo p w r w2 := ⟨h.1, kept_next (Kept.of_below hb) h.2⟩

theorem RdAt.drewN {p : Nat} {w : World} {r : RdM} (h : RdAt p w r) (d : Nat) : RdAt p (w.drewN d) r := h.keep (bdrewN (Below.refl _ _) d)
theorem or_step {m x : Int} (k : Nat) (hk : k < 8) (m0 : 0 ≤ m) (m1 : m < 256 ^ k) (x0 : 0 ≤ x) (x1 : x < 256) : bits BinOp.or IntKind.u64 m (IntKind.u64.wrap (x * 2 ^ (8 * k))) = m + x * 256 ^ k := by
  obtain ⟨M, rfl⟩ := Int.eq_ofNat_of_zero_le m0
  obtain ⟨X, rfl⟩ := Int.eq_ofNat_of_zero_le x0
  have e : (256 : Int) ^ k = ((2 ^ (8 * k) : Nat) : Int) := by
    rw [Nat.pow_mul, Int.natCast_pow]; rfl
  have e2 : (2 : Int) ^ (8 * k) = ((2 ^ (8 * k) : Nat) : Int) := by rw [Int.natCast_pow]; rfl
  rw [e] at m1 ⊢
  rw [e2]
  have hM : M < 2 ^ (8 * k) := Int.ofNat_lt.1 m1
  have hp : 2 ^ (8 * k) ≤ 2 ^ 56 := Nat.pow_le_pow_right (by omega) (by omega)
  have hX : X ≤ 255 := by omega
  have hb := Nat.mul_le_mul hp hX
  have h5 := Nat.two_pow_add_eq_or_of_lt hM X
  have e3 : (X : Int) * ((2 ^ (8 * k) : Nat) : Int) = ((2 ^ (8 * k) * X : Nat) : Int) := by rw [Int.natCast_mul, Int.mul_comm]
  rw [e3]
  generalize 2 ^ (8 * k) * X = Y at *
  have hY : Y < 18446744073709551616 := by omega
  have hM2 : M < 18446744073709551616 := by omega
  rw [IntKind.wrap_u64, Int.emod_eq_of_lt (by omega) (by omega), bits_or_u64_nat M Y hM2 hY, Nat.or_comm, ← h5]
  omega
def RdM.dig (r : RdM) (size : Nat) : Int × Bool × RdM := if r.bad size = true then (0, false, r.fail) else (r.num size, true, r.to size)
set_option maxRecDepth 100000 in
set_option maxHeartbeats 2000000 in
theorem digits_any (w : World) (p : Nat) (r : RdM) (h : RdAt p w r) (size : Nat) (hs : size ≤ 8) :
    Calls Tryz.prog 90 #[.pointer (some ⟨p, 0, none⟩), .int .i64 size] w fun e w' => e = .returned (.tuple #[.int .u64 (r.dig size).1, .bool (r.dig size).2.1]) ∧ RdTo p w (r.dig size).2.2 w' := by
  have H := Lib.hid h
  obtain ⟨a, cap, h1, h2, h3, h4⟩ := h
  obtain ⟨c0, c1⟩ := box_cells h1
  have HB := Lib.hid h2
  clear h1 h2
  cases hf : r.failed with
  | true =>
    have HD : Hid (r.dig size = (0, false, r.fail)) := by
      show _ = _; unfold RdM.dig RdM.bad; rw [hf]; rfl
    rw [hf] at c0
    have HR := Lib.hid H.out.fail
    go_enter Tryz.func90, Tryz.ntmps90
    go_wp2_with fail
    go_ret2
    rw [HD.out]
    exact ⟨rfl, HR.out⟩
  | false =>
    rw [hf] at c0
    go_enter Tryz.func90, Tryz.ntmps90
    go_wp2_with fail
    refine (left_any w p r H.out).mono ?_
    rintro e w1 ⟨rfl, hb1⟩
    have hr1 := H.out.keep hb1
    have HR1 := Lib.hid hr1
    obtain ⟨a1, cap1, q1, q2, q3, q4⟩ := hr1
    clear c0 c1
    obtain ⟨c0, c1⟩ := box_cells q1
    rw [hf] at c0
    have HB1 := Lib.hid q2
    clear q1 q2
    by_cases hlt : r.bytes.length - r.pos < size
    · have HD : Hid (r.dig size = (0, false, r.fail)) := by
        show _ = _; unfold RdM.dig RdM.bad; rw [hf, decide_eq_true (by omega)]; rfl
      have HR := Lib.hid (RdTo.of hb1 HR1.out.fail)
      go_wp2_with fail
      go_ret2
      rw [HD.out]
      exact ⟨rfl, HR.out⟩
    · have HD : Hid (r.dig size = (r.num size, true, r.to size)) := by
        show _ = _; unfold RdM.dig RdM.bad; rw [hf, decide_eq_false (by omega)]; rfl
      have hle : r.pos + size ≤ r.bytes.length := by omega
      have hby : ∀ d ∈ r.bytes, 0 ≤ d ∧ d < 256 := fun d hd => okB_in (ints_wf HB1.out d hd)
      have HBY := Lib.hid hby
      clear hby
      go_wp2_with fail
      go_loopw [6, 22] (fun vn vi wr => ∃ k : Nat, k ≤ size ∧ vi = .int .i64 k ∧ vn = .int .u64 (r.num k) ∧ ∃ d, wr = w1.drewN d) (fun _ vi _ => size - (intOf vi).toNat)
      case atStart => exact ⟨0, Nat.zero_le _, rfl, by simp [RdM.num, leN], 0, rfl⟩
      case round =>
        obtain ⟨k, hk, rfl, rfl, d, rfl⟩ := hrel
        by_cases hks : k < size
        · have hpk : r.pos + k < r.bytes.length := by omega
          obtain ⟨b, off, rfl, hbl, hbp, d0, d1, hc⟩ := bytes_at HB1.out (r.pos + k) hpk
          have hn := RdM.num_in HBY.out k (by omega)
          have HS := Lib.hid (r.num_step k hpk)
          generalize r.bytes[r.pos + k] = x at *
          generalize r.num k = m at *
          go_wp2_with fail
          go_quiet (fail)
          go_wp2_with fail
          go_roundw
          case rel =>
            refine ⟨k + 1, by omega, by go_num, ?_, ?_⟩
            · rw [HS.out]
              rw [or_step k (by omega) hn.1 hn.2 d0 d1]
            · exact ⟨d + nq, rfl⟩
          case measure => simp [intOf]; omega
        · obtain rfl : k = size := by omega
          have HR := Lib.hid (RdTo.of (bdrewN hb1 d) (RdAt.to (RdAt.drewN HR1.out d) k hle))
          go_wp2_with fail
          go_ret2
          rw [HD.out]
          exact ⟨rfl, HR.out⟩
theorem RdAt.okb {p : Nat} {w : World} {r : RdM} (h : RdAt p w r) : ∀ d ∈ r.bytes, 0 ≤ d ∧ d < 256 := by
  obtain ⟨a, cap, h1, h2, h3⟩ := h
  exact fun d hd => okB_in (ints_wf h2 d hd)
theorem RdAt.dig_in {p : Nat} {w : World} {r : RdM} (h : RdAt p w r) (size : Nat) : 0 ≤ (r.dig size).1 ∧ (r.dig size).1 < 256 ^ size := by
  unfold RdM.dig
  split
  · exact ⟨Int.le_refl _, Int.pow_pos (by omega)⟩
  · rename_i hb
    refine RdM.num_in h.okb size ?_
    unfold RdM.bad at hb
    simp at hb
    omega
def RdM.uint (r : RdM) (most : Int) : Int × RdM := if (r.dig 8).2.1 = false ∨ most < (r.dig 8).1 then (0, (r.dig 8).2.2.fail) else ((r.dig 8).1, (r.dig 8).2.2)
def RdM.int (r : RdM) (most : Int) : Int × RdM := if (r.dig 4).2.1 = false ∨ most < (r.dig 4).1 then (0, (r.dig 4).2.2.fail) else ((r.dig 4).1, (r.dig 4).2.2)
set_option maxRecDepth 100000 in
set_option maxHeartbeats 1000000 in
theorem rdUint_any (w : World) (p : Nat) (r : RdM) (h : RdAt p w r) (most : Int) (m0 : 0 ≤ most) :
    Calls Tryz.prog 42 #[.pointer (some ⟨p, 0, none⟩), .int .u64 most] w fun e w' => e = .returned (.int .u64 (r.uint most).1) ∧ RdTo p w (r.uint most).2 w' ∧ 0 ≤ (r.uint most).1 ∧ (r.uint most).1 ≤ most := by
  have hd := h.dig_in 8
  have HU : Hid (r.uint most = if (r.dig 8).2.1 = false ∨ most < (r.dig 8).1 then (0, (r.dig 8).2.2.fail) else ((r.dig 8).1, (r.dig 8).2.2)) := rfl
  go_enter Tryz.func42, Tryz.ntmps42
  go_wp2_with fail
  refine (digits_any w p r h 8 (by omega)).mono ?_
  rintro e w1 ⟨rfl, hr⟩
  generalize r.dig 8 = t at *
  obtain ⟨n, ok, r'⟩ := t
  simp only at hd hr HU ⊢
  have HR := Lib.hid hr
  have HF := Lib.hid (RdTo.next hr hr.1.fail)
  obtain ⟨a, cap, h1, -⟩ := hr.1
  obtain ⟨c0, c1⟩ := box_cells h1
  clear h1 hr h
  cases ok with
  | false =>
    have HV : Hid (r.uint most = (0, r'.fail)) := by show _ = _; rw [HU.out, if_pos (.inl rfl)]
    clear HU
    go_wp2_with fail
    go_ret
    rw [HV.out]
    exact ⟨rfl, HF.out, Int.le_refl _, m0⟩
  | true =>
    by_cases hlt : most < n
    · have HV : Hid (r.uint most = (0, r'.fail)) := by show _ = _; rw [HU.out, if_pos (.inr hlt)]
      clear HU
      go_wp2_with fail
      go_ret
      rw [HV.out]
      exact ⟨rfl, HF.out, Int.le_refl _, m0⟩
    · have HV : Hid (r.uint most = (n, r')) := by show _ = _; rw [HU.out, if_neg (fun h => h.elim (fun h => by cases h) hlt)]
      clear HU
      go_wp2_with fail
      go_ret
      rw [HV.out]
      exact ⟨rfl, HR.out, hd.1, by omega⟩
set_option maxRecDepth 100000 in
set_option maxHeartbeats 1000000 in
theorem rdInt_any (w : World) (p : Nat) (r : RdM) (h : RdAt p w r) (most : Int) (m0 : 0 ≤ most) (_m1 : most ≤ 4294967295) :
    Calls Tryz.prog 40 #[.pointer (some ⟨p, 0, none⟩), .int .i64 most] w fun e w' => e = .returned (.int .i64 (r.int most).1) ∧ RdTo p w (r.int most).2 w' ∧ 0 ≤ (r.int most).1 ∧ (r.int most).1 ≤ most := by
  have hd := h.dig_in 4
  have HU : Hid (r.int most = if (r.dig 4).2.1 = false ∨ most < (r.dig 4).1 then (0, (r.dig 4).2.2.fail) else ((r.dig 4).1, (r.dig 4).2.2)) := rfl
  go_enter Tryz.func40, Tryz.ntmps40
  go_wp2_with fail
  refine (digits_any w p r h 4 (by omega)).mono ?_
  rintro e w1 ⟨rfl, hr⟩
  generalize r.dig 4 = t at *
  obtain ⟨n, ok, r'⟩ := t
  simp only at hd hr HU ⊢
  have hd2 : n < 4294967296 := by simpa using hd.2
  have hd1 := hd.1
  clear hd
  have HR := Lib.hid hr
  have HF := Lib.hid (RdTo.next hr hr.1.fail)
  obtain ⟨a, cap, h1, -⟩ := hr.1
  obtain ⟨c0, c1⟩ := box_cells h1
  clear h1 hr h
  cases ok with
  | false =>
    have HV : Hid (r.int most = (0, r'.fail)) := by show _ = _; rw [HU.out, if_pos (.inl rfl)]
    clear HU
    go_wp2_with fail
    go_ret
    rw [HV.out]
    exact ⟨rfl, HF.out, Int.le_refl _, m0⟩
  | true =>
    by_cases hlt : most < n
    · have HV : Hid (r.int most = (0, r'.fail)) := by show _ = _; rw [HU.out, if_pos (.inr hlt)]
      clear HU
      go_wp2_with fail
      go_ret
      rw [HV.out]
      exact ⟨rfl, HF.out, Int.le_refl _, m0⟩
    · have HV : Hid (r.int most = (n, r')) := by show _ = _; rw [HU.out, if_neg (fun h => h.elim (fun h => by cases h) hlt)]
      clear HU
      go_wp2_with fail
      go_ret
      rw [HV.out]
      exact ⟨rfl, HR.out, hd1, by omega⟩
theorem nat_eq_dec (a b : Nat) : ((a : Int) == (b : Int)) = decide (a = b) := by
  rw [Bool.eq_iff_iff, beq_iff_eq, decide_eq_true_eq]; omega
def RdM.done (r : RdM) : Bool := !r.failed && decide (r.pos = r.bytes.length)
set_option maxRecDepth 100000 in
set_option maxHeartbeats 1000000 in
theorem done_any (w : World) (p : Nat) (r : RdM) (h : RdAt p w r) : Calls Tryz.prog 44 #[.pointer (some ⟨p, 0, none⟩)] w fun e w' => e = .returned (.bool r.done) ∧ Below w.heap.size w w' := by
  obtain ⟨a, cap, h1, h2, h3, h4⟩ := h
  obtain ⟨c0, c1⟩ := box_cells h1
  clear h1 h2
  cases hf : r.failed with
  | true =>
    rw [hf] at c0
    have HD : Hid (r.done = false) := by show _ = _; unfold RdM.done; rw [hf]; rfl
    go_enter Tryz.func44, Tryz.ntmps44
    go_wp2_with fail
    go_quiet (fail)
    go_wp2_with fail
    go_ret
    exact ⟨ret_bool HD.out.symm, bdrewN (Below.refl _ _) _⟩
  | false =>
    rw [hf] at c0
    have HD : Hid (r.done = decide (r.pos = r.bytes.length)) := by show _ = _; unfold RdM.done; rw [hf]; rfl
    go_enter Tryz.func44, Tryz.ntmps44
    go_wp2_with fail
    go_quiet (fail)
    go_wp2_with fail
    go_ret
    rw [HD.out]
    refine ⟨ret_bool (nat_eq_dec _ _), bdrewN (Below.refl _ _) _⟩
end Go.Proofs.YthggdacincfplaaGreatDoor
