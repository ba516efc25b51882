/- Hashes of fixed shape: keys, nodes, origins. -/
import Derived.Test.YthggdacincfplaaGreatDoorSponge
import Derived.Test.YthggdacincfplaaGreatDoorValid
namespace Go.Proofs.YthggdacincfplaaGreatDoor
open Go.ChangeShapes Go.WideShapes Go.ChangeAt Go.RowKit

theorem maxLen_9 : 9 ≤ maxLen := by unfold maxLen; omega
theorem nums1 (w : World) (t : TypeId) {x : Int} (hx : okU x) : numsR.rel (fun _ => True) (w.alloc (.cells #[.int .u64 x] t)) [.slice (some ⟨w.heap.size, 0, none⟩) 1 1] [x] :=
  nums_new w t [x] 1 (by intro y hy; simp at hy; subst hy; exact hx) (by simp) (by have := maxLen_9; omega)
theorem nums2 (w : World) (t : TypeId) {x y : Int} (hx : okU x) (hy : okU y) : numsR.rel (fun _ => True) (w.alloc (.cells #[.int .u64 x, .int .u64 y] t)) [.slice (some ⟨w.heap.size, 0, none⟩) 2 2] [x, y] :=
  nums_new w t [x, y] 2 (by intro z hz; simp at hz; rcases hz with rfl | rfl <;> assumption) (by simp) (by have := maxLen_9; omega)
theorem nums4 (w : World) (t : TypeId) {x y z v : Int} (hx : okU x) (hy : okU y) (hz : okU z) (hv : okU v) : numsR.rel (fun _ => True) (w.alloc (.cells #[.int .u64 x, .int .u64 y, .int .u64 z, .int .u64 v] t)) [.slice (some ⟨w.heap.size, 0, none⟩) 4 4] [x, y, z, v] :=
  nums_new w t [x, y, z, v] 4 (by intro u hu; simp at hu; rcases hu with rfl | rfl | rfl | rfl <;> assumption) (by simp) (by have := maxLen_9; omega)

theorem keysHash_any (S : Nat → Prop) (w : World) (label : Int) (l0 : 0 ≤ label) (a : Option Addr) (len cap : Nat) (l : List Int) (hlen : len = l.length) (h : numsR.rel S w [.slice a len cap] l) (hl : l.length ≤ 1000) :
    Calls Tryz.prog 101 #[.int .u64 label, .slice a len cap] w fun e w' => e = .returned (.int .u64 (hashS label l)) ∧ Below w.heap.size w w' := by
  subst hlen
  go_enter Tryz.func101, Tryz.ntmps101
  go_wp2_with fail
  refine (Hash_big label l0 S w a cap l h (by omega)).mono ?_
  rintro e w1 ⟨rfl, hb⟩
  go_wp2_with fail
  go_ret
  exact ⟨rfl, hb⟩
theorem account_any (w : World) (x : Int) (hx : okU x) : Calls Tryz.prog 48 #[.int .u64 x] w fun e w' => e = .returned (.int .u64 (hashS 7 [x])) ∧ Below w.heap.size w w' := by
  have HX := Lib.hid (nums1 w 24 hx)
  clear hx
  go_enter Tryz.func48, Tryz.ntmps48
  go_wp2_with fail
  refine (keysHash_any (fun _ => True) _ 7 (by omega) _ 1 1 [x] rfl HX.out (by simp)).mono ?_
  rintro e w1 ⟨rfl, hb⟩
  go_wp2_with fail
  go_ret
  exact ⟨rfl, bnext (bnew (Below.refl _ _) _) hb⟩
theorem isNumber_any (w : World) (n : Int) : Calls Tryz.prog 162 #[.int .i64 n] w fun e w' => e = .returned (.bool (decide (0 ≤ n ∧ n < 4))) ∧ Below w.heap.size w w' := by
  go_enter Tryz.func162, Tryz.ntmps162
  go_wp2_with fail
  all_goals go_ret
  all_goals refine ⟨ret_bool ?_, Below.refl _ _⟩
  all_goals first
    | exact (decide_eq_true (by omega)).symm
    | exact (decide_eq_false (by omega)).symm
    | exact decide_eq_decide.2 (by omega)
    | (rw [Bool.eq_iff_iff]; simp; omega)
def ownerS (key n : Int) : Int := if 0 ≤ n ∧ n < 4 then hashS 1 [key, n] else 0
theorem owner_any (w : World) (key n : Int) (hk : okU key) : Calls Tryz.prog 95 #[.int .u64 key, .int .i64 n] w fun e w' => e = .returned (.int .u64 (ownerS key n)) ∧ Below w.heap.size w w' := by
  by_cases hn : 0 ≤ n ∧ n < 4
  · have HR : Hid (ownerS key n = hashS 1 [key, n]) := by show _ = _; unfold ownerS; rw [if_pos hn]
    have hd : decide (0 ≤ n ∧ n < 4) = true := decide_eq_true hn
    have HD := Lib.hid hd
    have hn0 := hn.1
    have hn1 := hn.2
    have hw : IntKind.u64.wrap n = n := by rw [IntKind.wrap_u64]; omega
    have ok2 : okU n := okU_of hn0 (by omega)
    clear hd hn
    go_enter Tryz.func95, Tryz.ntmps95
    go_wp2_with fail
    refine (isNumber_any w n).mono ?_
    rintro e w1 ⟨rfl, hb1⟩
    rw [HD.out]
    have HX := Lib.hid (nums2 w1 24 hk ok2)
    go_wp2_with fail
    refine (keysHash_any (fun _ => True) _ 1 (by omega) _ 2 2 [key, n] rfl HX.out (by simp)).mono ?_
    rintro e w2 ⟨rfl, hb⟩
    go_wp2_with fail
    go_ret
    exact ⟨ret_int HR.out.symm, bnext (bnew hb1 _) hb⟩
  · have HR : Hid (ownerS key n = 0) := by show _ = _; unfold ownerS; rw [if_neg hn]
    have HD := Lib.hid (decide_eq_false hn)
    clear hn
    go_enter Tryz.func95, Tryz.ntmps95
    go_wp2_with fail
    refine (isNumber_any w n).mono ?_
    rintro e w1 ⟨rfl, hb1⟩
    rw [HD.out]
    go_wp2_with fail
    go_ret
    exact ⟨ret_int HR.out.symm, hb1⟩
theorem node_any (w : World) (x y : Int) (hx : okU x) (hy : okU y) : Calls Tryz.prog 163 #[.int .u64 x, .int .u64 y] w fun e w' => e = .returned (.int .u64 (hashS 6 [x, y])) ∧ Below w.heap.size w w' := by
  have HX := Lib.hid (nums2 w 24 hx hy)
  clear hx hy
  go_enter Tryz.func163, Tryz.ntmps163
  go_wp2_with fail
  refine (Hash_big 6 (by omega) (fun _ => True) _ _ _ [x, y] HX.out (by simp)).mono ?_
  rintro e w1 ⟨rfl, hb⟩
  go_wp2_with fail
  go_ret
  exact ⟨rfl, bnext (bnew (Below.refl _ _) _) hb⟩
def rhoS (o : Int) (i : Nat) : Int := if o < 18446744069414584321 then hashS 4 [o, i] else 0
theorem rho_any (w : World) (o : Int) (i : Nat) (ho : okU o) (hi : i ≤ 1000) : Calls Tryz.prog 30 #[.int .u64 o, .int .i64 i] w fun e w' => e = .returned (.int .u64 (rhoS o i)) ∧ Below w.heap.size w w' := by
  have hw : IntKind.u64.wrap (i : Int) = i := by rw [IntKind.wrap_u64]; omega
  have HX := Lib.hid (nums2 w 24 ho (okU_of (x := (i : Int)) (by omega) (by omega)))
  clear ho
  by_cases hn : o < 18446744069414584321
  · have HR : Hid (rhoS o i = hashS 4 [o, i]) := by show _ = _; unfold rhoS; rw [if_pos hn]
    go_enter Tryz.func30, Tryz.ntmps30
    go_wp2_with fail
    refine (Hash_big 4 (by omega) (fun _ => True) _ _ _ [o, (i : Int)] HX.out (by simp)).mono ?_
    rintro e w1 ⟨rfl, hb⟩
    go_wp2_with fail
    go_ret
    exact ⟨ret_int HR.out.symm, bnext (bnew (Below.refl _ _) _) hb⟩
  · have HR : Hid (rhoS o i = 0) := by show _ = _; unfold rhoS; rw [if_neg hn]
    go_enter Tryz.func30, Tryz.ntmps30
    go_wp2_with fail
    go_ret
    exact ⟨ret_int HR.out.symm, Below.refl _ _⟩
def originS (marks : List Int) (acc nonce : Int) : Int :=
  if marks.length = 0 then (if acc < 18446744069414584321 ∧ nonce < 18446744069414584321 then hashS 5 [acc, nonce] else 0) else (if marks.getD 0 0 < 18446744069414584321 then marks.getD 0 0 else 0)
set_option maxHeartbeats 1000000 in
theorem origin_any (S : Nat → Prop) (w : World) (a : Option Addr) (cap : Nat) (l : List Int) (h : numsR.rel S w [.slice a l.length cap] l) (x y : Int) (hx : okU x) (hy : okU y) :
    Calls Tryz.prog 55 #[.slice a l.length cap, .int .u64 x, .int .u64 y] w fun e w' => e = .returned (.int .u64 (originS l x y)) ∧ Below w.heap.size w w' := by
  have HX := Lib.hid (nums2 w 24 hx hy)
  have g1 := (sliceR.lens h).2
  unfold maxLen at g1
  by_cases hl : l.length = 0
  · by_cases hc : x < 18446744069414584321 ∧ y < 18446744069414584321
    · have HR : Hid (originS l x y = hashS 5 [x, y]) := by show _ = _; unfold originS; rw [if_pos hl, if_pos hc]
      have hc0 := hc.1
      have hc1 := hc.2
      clear hc h
      rw [hl]
      go_enter Tryz.func55, Tryz.ntmps55
      go_wp2_with fail
      refine (Hash_big 5 (by omega) (fun _ => True) _ _ _ [x, y] HX.out (by simp)).mono ?_
      rintro e w1 ⟨rfl, hb⟩
      go_wp2_with fail
      go_ret
      exact ⟨ret_int HR.out.symm, bnext (bnew (Below.refl _ _) _) hb⟩
    · have HR : Hid (originS l x y = 0) := by show _ = _; unfold originS; rw [if_pos hl, if_neg hc]
      clear h
      rw [hl]
      by_cases hc0 : x < 18446744069414584321
      · have hc1 : ¬ y < 18446744069414584321 := fun h => hc ⟨hc0, h⟩
        go_enter Tryz.func55, Tryz.ntmps55
        go_wp2_with fail
        go_ret
        exact ⟨ret_int HR.out.symm, Below.refl _ _⟩
      · go_enter Tryz.func55, Tryz.ntmps55
        go_wp2_with fail
        go_ret
        exact ⟨ret_int HR.out.symm, Below.refl _ _⟩
  · have hpos : 0 < l.length := by omega
    obtain ⟨b, off, rfl, hbl, n0, n1, hc⟩ := nums_at h 0 hpos
    have hpi : (0 : Int) < (l.length : Int) := by omega
    rw [Nat.add_zero] at hc
    have hg := getD_at l 0 0 hpos
    have HS : Hid (originS l x y = if l[0] < 18446744069414584321 then l[0] else 0) := by show _ = _; unfold originS; rw [if_neg hl, hg]
    clear hg h
    generalize l[0] = n at *
    by_cases hp : n < 18446744069414584321
    · have HR : Hid (originS l x y = n) := by show _ = _; rw [HS.out, if_pos hp]
      go_enter Tryz.func55, Tryz.ntmps55
      go_wp2_with fail
      go_ret
      exact ⟨ret_int HR.out.symm, Below.refl _ _⟩
    · have HR : Hid (originS l x y = 0) := by show _ = _; rw [HS.out, if_neg hp]
      go_enter Tryz.func55, Tryz.ntmps55
      go_wp2_with fail
      go_ret
      exact ⟨ret_int HR.out.symm, Below.refl _ _⟩
theorem hashS_ok (label : Int) (l : List Int) : okU (hashS label l) := by
  have := hashS_in label l
  exact okU_of this.1 (by omega)
end Go.Proofs.YthggdacincfplaaGreatDoor
