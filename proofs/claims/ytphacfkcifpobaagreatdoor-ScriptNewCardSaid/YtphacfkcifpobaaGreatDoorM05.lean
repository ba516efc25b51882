/- Hashes of fixed shape: keys, nodes, origins. -/
import Derived.Test.YtphacfkcifpobaaGreatDoorM04
import Derived.Test.YtphacfkcifpobaaGreatDoorM03
import Derived.Laws.Cover3
import Derived.Laws.Bits64b
set_option maxRecDepth 100000
namespace Go.Proofs.YtphacfkcifpobaaGreatDoor
open Go.ChangeShapes Go.WideShapes Go.ChangeAt Go.RowKit
theorem maxLen_9 : 9 ≤ maxLen := by unfold maxLen; omega
theorem nums1 (w : World) (t : TypeId) {x : Int} (hx : okU x) : numsR.rel (fun _ => True) (w.alloc (.cells #[.int .u64 x] t)) [.slice (some ⟨w.heap.size, 0, none⟩) 1 1] [x] :=
 nums_new w t [x] 1 (by intro y hy; simp at hy; subst hy; exact hx) (by simp) (by have := maxLen_9; omega)
theorem nums2 (w : World) (t : TypeId) {x y : Int} (hx : okU x) (hy : okU y) : numsR.rel (fun _ => True) (w.alloc (.cells #[.int .u64 x, .int .u64 y] t)) [.slice (some ⟨w.heap.size, 0, none⟩) 2 2] [x, y] :=
 nums_new w t [x, y] 2 (by intro z hz; simp at hz; rcases hz with rfl | rfl <;> assumption) (by simp) (by have := maxLen_9; omega)
theorem nums4 (w : World) (t : TypeId) {x y z v : Int} (hx : okU x) (hy : okU y) (hz : okU z) (hv : okU v) : numsR.rel (fun _ => True) (w.alloc (.cells #[.int .u64 x, .int .u64 y, .int .u64 z, .int .u64 v] t)) [.slice (some ⟨w.heap.size, 0, none⟩) 4 4] [x, y, z, v] :=
 nums_new w t [x, y, z, v] 4 (by intro u hu; simp at hu; rcases hu with rfl | rfl | rfl | rfl <;> assumption) (by simp) (by have := maxLen_9; omega)
theorem keysHash_any (S : Nat → Prop) (w : World) (label : Int) (l0 : 0 ≤ label) (a : Option Addr) (len cap : Nat) (l : List Int) (hlen : len = l.length) (h : numsR.rel S w [.slice a len cap] l) (hl : l.length ≤ 1000) :
   Calls Tryz.prog 70 #[.int .u64 label, .slice a len cap] w fun e w' => e = .returned (.int .u64 (hashS label l)) ∧ Below w.heap.size w w' := by
 subst hlen
 go_enter Tryz.func70, Tryz.ntmps70
 go_wp2_with fail
 refine (Hash_big label l0 S w a cap l h (by omega)).mono ?_
 rintro e w1 ⟨rfl, hb⟩; go_wp2_with fail; go_ret
 exact ⟨rfl, hb⟩
theorem account_any (w : World) (x : Int) (hx : okU x) : Calls Tryz.prog 131 #[.int .u64 x] w fun e w' => e = .returned (.int .u64 (hashS 7 [x])) ∧ Below w.heap.size w w' := by
 have HX := Lib.hid (nums1 w 24 hx); clear hx
 go_enter Tryz.func131, Tryz.ntmps131
 go_wp2_with fail
 refine (keysHash_any (fun _ => True) _ 7 (by omega) _ 1 1 [x] rfl HX.out (by simp)).mono ?_
 rintro e w1 ⟨rfl, hb⟩; go_wp2_with fail; go_ret
 exact ⟨rfl, bnext (bnew (Below.refl _ _) _) hb⟩
theorem isNumber_any (w : World) (n : Int) : Calls Tryz.prog 96 #[.int .i64 n] w fun e w' => e = .returned (.bool (decide (0 ≤ n ∧ n < 4))) ∧ Below w.heap.size w w' := by
 go_enter Tryz.func96, Tryz.ntmps96
 go_wp2_with fail
 all_goals go_ret
 all_goals refine ⟨ret_bool ?_, Below.refl _ _⟩
 all_goals first
   | exact (decide_eq_true (by omega)).symm
   | exact (decide_eq_false (by omega)).symm
   | exact decide_eq_decide.2 (by omega)
   | (rw [Bool.eq_iff_iff]; simp; omega)
def ownerS (key n : Int) : Int := if 0 ≤ n ∧ n < 4 then hashS 1 [key, n] else 0
theorem owner_any (w : World) (key n : Int) (hk : okU key) : Calls Tryz.prog 97 #[.int .u64 key, .int .i64 n] w fun e w' => e = .returned (.int .u64 (ownerS key n)) ∧ Below w.heap.size w w' := by
 by_cases hn : 0 ≤ n ∧ n < 4
 · have HR : Hid (ownerS key n = hashS 1 [key, n]) := by show _ = _; unfold ownerS; rw [if_pos hn]
   have hd : decide (0 ≤ n ∧ n < 4) = true := decide_eq_true hn; have HD := Lib.hid hd; have hn0 := hn.1; have hn1 := hn.2
   have hw : IntKind.u64.wrap n = n := by rw [IntKind.wrap_u64]; omega
   have ok2 : okU n := okU_of hn0 (by omega)
   clear hd hn
   go_enter Tryz.func97, Tryz.ntmps97
   go_wp2_with fail
   refine (isNumber_any w n).mono ?_
   rintro e w1 ⟨rfl, hb1⟩; rw [HD.out]; have HX := Lib.hid (nums2 w1 24 hk ok2); go_wp2_with fail
   refine (keysHash_any (fun _ => True) _ 1 (by omega) _ 2 2 [key, n] rfl HX.out (by simp)).mono ?_
   rintro e w2 ⟨rfl, hb⟩; go_wp2_with fail; go_ret
   exact ⟨ret_int HR.out.symm, bnext (bnew hb1 _) hb⟩
 · have HR : Hid (ownerS key n = 0) := by show _ = _; unfold ownerS; rw [if_neg hn]
   have HD := Lib.hid (decide_eq_false hn); clear hn
   go_enter Tryz.func97, Tryz.ntmps97
   go_wp2_with fail
   refine (isNumber_any w n).mono ?_
   rintro e w1 ⟨rfl, hb1⟩; rw [HD.out]; go_wp2_with fail; go_ret
   exact ⟨ret_int HR.out.symm, hb1⟩
theorem node_any (w : World) (x y : Int) (hx : okU x) (hy : okU y) : Calls Tryz.prog 113 #[.int .u64 x, .int .u64 y] w fun e w' => e = .returned (.int .u64 (hashS 6 [x, y])) ∧ Below w.heap.size w w' := by
 have HX := Lib.hid (nums2 w 24 hx hy); clear hx hy
 go_enter Tryz.func113, Tryz.ntmps113
 go_wp2_with fail
 refine (Hash_big 6 (by omega) (fun _ => True) _ _ _ [x, y] HX.out (by simp)).mono ?_
 rintro e w1 ⟨rfl, hb⟩; go_wp2_with fail; go_ret
 exact ⟨rfl, bnext (bnew (Below.refl _ _) _) hb⟩
def rhoS (o : Int) (i : Nat) : Int := if o < 18446744069414584321 then hashS 4 [o, i] else 0
theorem rho_any (w : World) (o : Int) (i : Nat) (ho : okU o) (hi : i ≤ 1000) : Calls Tryz.prog 276 #[.int .u64 o, .int .i64 i] w fun e w' => e = .returned (.int .u64 (rhoS o i)) ∧ Below w.heap.size w w' := by
 have hw : IntKind.u64.wrap (i : Int) = i := by rw [IntKind.wrap_u64]; omega
 have HX := Lib.hid (nums2 w 24 ho (okU_of (x := (i : Int)) (by omega) (by omega)))
 clear ho
 by_cases hn : o < 18446744069414584321
 · have HR : Hid (rhoS o i = hashS 4 [o, i]) := by show _ = _; unfold rhoS; rw [if_pos hn]
   go_enter Tryz.func276, Tryz.ntmps276
   go_wp2_with fail
   refine (Hash_big 4 (by omega) (fun _ => True) _ _ _ [o, (i : Int)] HX.out (by simp)).mono ?_
   rintro e w1 ⟨rfl, hb⟩; go_wp2_with fail; go_ret
   exact ⟨ret_int HR.out.symm, bnext (bnew (Below.refl _ _) _) hb⟩
 · have HR : Hid (rhoS o i = 0) := by show _ = _; unfold rhoS; rw [if_neg hn]
   go_enter Tryz.func276, Tryz.ntmps276
   go_wp2_with fail; go_ret
   exact ⟨ret_int HR.out.symm, Below.refl _ _⟩
def originS (marks : List Int) (acc nonce : Int) : Int :=
 if marks.length = 0 then (if acc < 18446744069414584321 ∧ nonce < 18446744069414584321 then hashS 5 [acc, nonce] else 0) else (if marks.getD 0 0 < 18446744069414584321 then marks.getD 0 0 else 0)
set_option maxHeartbeats 1000000 in
theorem origin_any (S : Nat → Prop) (w : World) (a : Option Addr) (cap : Nat) (l : List Int) (h : numsR.rel S w [.slice a l.length cap] l) (x y : Int) (hx : okU x) (hy : okU y) :
   Calls Tryz.prog 215 #[.slice a l.length cap, .int .u64 x, .int .u64 y] w fun e w' => e = .returned (.int .u64 (originS l x y)) ∧ Below w.heap.size w w' := by
 have HX := Lib.hid (nums2 w 24 hx hy); have g1 := (sliceR.lens h).2; unfold maxLen at g1
 by_cases hl : l.length = 0
 · by_cases hc : x < 18446744069414584321 ∧ y < 18446744069414584321
   · have HR : Hid (originS l x y = hashS 5 [x, y]) := by show _ = _; unfold originS; rw [if_pos hl, if_pos hc]
     have hc0 := hc.1; have hc1 := hc.2; clear hc h; rw [hl]
     go_enter Tryz.func215, Tryz.ntmps215
     go_wp2_with fail
     refine (Hash_big 5 (by omega) (fun _ => True) _ _ _ [x, y] HX.out (by simp)).mono ?_
     rintro e w1 ⟨rfl, hb⟩; go_wp2_with fail; go_ret
     exact ⟨ret_int HR.out.symm, bnext (bnew (Below.refl _ _) _) hb⟩
   · have HR : Hid (originS l x y = 0) := by show _ = _; unfold originS; rw [if_pos hl, if_neg hc]
     clear h; rw [hl]
     by_cases hc0 : x < 18446744069414584321
     · have hc1 : ¬ y < 18446744069414584321 := fun h => hc ⟨hc0, h⟩
       go_enter Tryz.func215, Tryz.ntmps215
       go_wp2_with fail; go_ret
       exact ⟨ret_int HR.out.symm, Below.refl _ _⟩
     · go_enter Tryz.func215, Tryz.ntmps215
       go_wp2_with fail; go_ret
       exact ⟨ret_int HR.out.symm, Below.refl _ _⟩
 · have hpos : 0 < l.length := by omega
   obtain ⟨b, off, rfl, hbl, n0, n1, hc⟩ := nums_at h 0 hpos
   have hpi : (0 : Int) < (l.length : Int) := by omega
   rw [Nat.add_zero] at hc; have hg := getD_at l 0 0 hpos
   have HS : Hid (originS l x y = if l[0] < 18446744069414584321 then l[0] else 0) := by show _ = _; unfold originS; rw [if_neg hl, hg]
   clear hg h; generalize l[0] = n at *
   by_cases hp : n < 18446744069414584321
   · have HR : Hid (originS l x y = n) := by show _ = _; rw [HS.out, if_pos hp]
     go_enter Tryz.func215, Tryz.ntmps215
     go_wp2_with fail; go_ret
     exact ⟨ret_int HR.out.symm, Below.refl _ _⟩
   · have HR : Hid (originS l x y = 0) := by show _ = _; rw [HS.out, if_neg hp]
     go_enter Tryz.func215, Tryz.ntmps215
     go_wp2_with fail; go_ret
     exact ⟨ret_int HR.out.symm, Below.refl _ _⟩
theorem hashS_ok (label : Int) (l : List Int) : okU (hashS label l) := by
 have := hashS_in label l
 exact okU_of this.1 (by omega)
end Go.Proofs.YtphacfkcifpobaaGreatDoor
/- Transactions: clones, bytes, the digest of all but the proof, origins. -/
namespace Go.Proofs.YtphacfkcifpobaaGreatDoor
open Go.ChangeShapes Go.WideShapes Go.ChangeAt Go.RowKit
theorem eql_nil (a : Option Addr) (l c : Nat) (w : World) : (binOp .eql 86 (.slice a l c) (.slice none 0 0)).run Tryz.prog w = .ok (.bool a.isNone) w := by
 simp only [binOp]
 simp [run_equal_slice_nil w 86 24 a l c Tryz.underlying86]
set_option maxHeartbeats 1000000 in
theorem clone_any (S : Nat → Prop) (w : World) (a : Option Addr) (cap : Nat) (l : List Int) (h : numsR.rel S w [.slice a l.length cap] l) (hl : l.length ≤ 1000000) :
   Calls Tryz.prog 167 #[.slice a l.length cap] w (GivesS u64R (fun k => w.heap.size ≤ k) l w) := by
 have hen := eql_nil
 cases a with
 | none =>
   have hl0 : l = [] := by
     cases l with
     | nil => rfl
     | cons x xs => obtain ⟨b, off, h1, -⟩ := nums_at h 0 (by simp); cases h1
   subst hl0
   go_enter Tryz.func167, Tryz.ntmps167
   go_wp2_with fail; go_ret
   exact ⟨none, 0, rfl, sliceR.nil, Below.refl _ _⟩
 | some ad =>
   have hb0 := bnew (Below.refl w.heap.size w) (.cells #[] 24); have HO := Lib.hid (Own.empty u64R w.heap.size 24 (box_new w (.cells #[] 24)) (Nat.le_refl _))
   have HS := Lib.hid (Src.plain (S' := fun _ => False) (Plain.int .u64) (Src.of_slice (numsR.keepB h hb0)))
   have HB := Lib.hid hb0; clear h hb0
   go_enter Tryz.func167, Tryz.ntmps167
   go_wp2_with (at_builtin; refine wpList_append_rel (r := u64R) (base := w.heap.size) rfl _ _ rfl Tryz.etyNums rfl rfl HO.out HS.out (fun _ _ h => h.elim) (fun _ _ h => h) (by unfold maxLen; simp; omega) (by simp; omega) (by rw [World.size_alloc]; omega) ?_)
   intro v3 w3 ho3 hk3 _
   have hb3 : Below w.heap.size w w3 := Kept.behind HB.out hk3 (by rw [World.size_alloc]; omega) fun k hk h => by have := (HO.out.lt h).2.2; omega
   have HG := Lib.hid (GivesS.mk (numsR.mono ho3.slice (S' := fun k => w.heap.size ≤ k) fun k _ h => by rcases h with h | h <;> omega) hb3)
   clear ho3; go_wp2_with fail; go_ret
   exact HG.out
def SomeB (N : Nat) (w : World) (e : Ending) (w' : World) : Prop := ∃ (ys : List Int) (a : Option Addr) (cap : Nat), ys.length ≤ N ∧ e = .returned (.slice a ys.length cap) ∧ bytesR.rel (fun _ => True) w' [.slice a ys.length cap] ys ∧ Below w.heap.size w w'
theorem GivesS.someB {ys : List Int} {N : Nat} {w w' : World} {e : Ending} (h : GivesB ys w e w') (hl : ys.length ≤ N) : SomeB N w e w' := by
 obtain ⟨a, cap, h1, h2, h3⟩ := h
 exact ⟨ys, a, cap, hl, h1, h2, h3⟩
theorem UintW (N : Nat) (w : World) (a : Option Addr) (cap : Nat) (xs : List Int) (h : bytesR.rel (fun _ => True) w [.slice a xs.length cap] xs) (hx : xs.length ≤ N) (hN : N ≤ 100000) (n : Int) (hn : okU n) :
   Calls Tryz.prog 32 #[.slice a xs.length cap, .int .u64 n] w (SomeB (N + 8) w) :=
 (Uint_any _ w a cap xs h n (okU_in hn).1 (okU_in hn).2 (by omega)).mono fun _ _ h => GivesS.someB h (by rw [List.length_append, digs_len]; omega)
theorem IntW (N : Nat) (w : World) (a : Option Addr) (cap : Nat) (xs : List Int) (h : bytesR.rel (fun _ => True) w [.slice a xs.length cap] xs) (hx : xs.length ≤ N) (hN : N ≤ 100000) (n : Nat) (hn : n ≤ 4294967295) :
   Calls Tryz.prog 29 #[.slice a xs.length cap, .int .i64 n] w (SomeB (N + 4) w) :=
 (Int_any _ w a cap xs h n hn (by omega)).mono fun _ _ h => GivesS.someB h (by rw [List.length_append, digs_len]; omega)
theorem ListW (N M : Nat) (S' : Nat → Prop) (w : World) (a : Option Addr) (cap : Nat) (xs : List Int) (h : bytesR.rel (fun _ => True) w [.slice a xs.length cap] xs) (hx : xs.length ≤ N) (hN : N ≤ 100000) (la : Option Addr) (lc : Nat) (l : List Int) (hl : numsR.rel S' w [.slice la l.length lc] l) (hM : l.length ≤ M) (hM2 : M ≤ 100) :
   Calls Tryz.prog 30 #[.slice a xs.length cap, .slice la l.length lc] w (SomeB (N + 4 + 8 * M) w) :=
 (List_any _ S' w a cap xs h la lc l hl (by omega) (by omega)).mono fun _ _ h => GivesS.someB h (by simp only [List.length_append, digs_len, digsAll_len]; omega)
theorem BytesW (N : Nat) (w : World) (a : Option Addr) (cap : Nat) (xs : List Int) (h : bytesR.rel (fun _ => True) w [.slice a xs.length cap] xs) (hx : xs.length ≤ N) (hN : N ≤ 100000) :
   Calls Tryz.prog 143 #[.slice a xs.length cap, .slice none 0 0] w (SomeB (N + 4) w) :=
 (Bytes_any _ (fun _ => True) w a cap xs h none 0 [] sliceR.nil (by omega) (by simp)).mono fun _ _ h => GivesS.someB h (by simp [digs_len]; omega)
theorem validE_facts {t : TxM} (h : validE t = 0) : t.marks.length ≤ 4 ∧ t.outs.length ≤ 4 ∧ (∀ o ∈ t.outs, o.cipher.length = 3) ∧ 0 ≤ t.exp ∧ t.exp ≤ 1048576 ∧ t.proof.length ≤ 1048576 := by
 unfold validE at h
 split at h
 · rename_i hc
   split at h
   · rename_i hp
     unfold marksB outsB restB at hc
     simp only [Bool.and_eq_true, decide_eq_true_eq] at hc
     obtain ⟨h1, h2, -, h3⟩ := hc
     refine ⟨h1.1, h2.1, fun o ho => ?_, h3.2.1, h3.2.2, hp⟩
     have := List.all_eq_true.1 h2.2 o ho; unfold outB at this
     simp only [Bool.and_eq_true, decide_eq_true_eq] at this
     exact this.2.2.1
   · simp at h
 · simp at h
set_option maxHeartbeats 4000000 in
theorem encode_any (S : Nat → Prop) (w : World) (t : TxM) (ma oa pa : Option Addr) (mc oc pc : Nat) (h : TxIn S w t ma oa pa mc oc pc) (hv : validE t = 0) :
   Calls Tryz.prog 207 #[.agg #[.int .u64 t.anchor, .slice ma t.marks.length mc, .slice oa t.outs.length oc, .int .u64 t.dep, .int .u64 t.wd, .int .u64 t.fee, .int .u64 t.acc, .int .u64 t.nonce, .int .i64 t.exp, .slice pa t.proof.length pc], .slice none 0 0] w (SomeB 2000 w) := by
 obtain ⟨f1, f2, f3, f4, f5, f6⟩ := validE_facts hv; have hb0 := bnew (Below.refl w.heap.size w) (.cells #[.int .u64 t.anchor, .slice ma t.marks.length mc, .slice oa t.outs.length oc, .int .u64 t.dep, .int .u64 t.wd, .int .u64 t.fee, .int .u64 t.acc, .int .u64 t.nonce, .int .i64 t.exp, .slice pa t.proof.length pc] 181); have HX := Lib.hid (box_new w (.cells #[.int .u64 t.anchor, .slice ma t.marks.length mc, .slice oa t.outs.length oc, .int .u64 t.dep, .int .u64 t.wd, .int .u64 t.fee, .int .u64 t.acc, .int .u64 t.nonce, .int .i64 t.exp, .slice pa t.proof.length pc] 181)); have H := Lib.hid (h.keepB hb0); have HB := Lib.hid hb0; have HF3 := Lib.hid f3; clear hb0 h hv f3
 go_enter Tryz.func207, Tryz.ntmps207
 go_wp2_with fail; generalize w.alloc (.cells #[.int .u64 t.anchor, .slice ma t.marks.length mc, .slice oa t.outs.length oc, .int .u64 t.dep, .int .u64 t.wd, .int .u64 t.fee, .int .u64 t.acc, .int .u64 t.nonce, .int .i64 t.exp, .slice pa t.proof.length pc] 181) = W at *
 refine (UintW 0 W none 0 [] sliceR.nil (Nat.le_refl _) (by omega) t.anchor H.out.anchor).mono ?_
 rintro e w1 ⟨y1, a1, c1, l1, rfl, h1, hb1⟩; obtain ⟨x0, x1⟩ := box_cells (box_after hb1 HX.out); go_wp2_with fail
 refine (ListW 8 4 S w1 a1 c1 y1 h1 (by omega) (by omega) ma mc t.marks (numsR.keepB H.out.marks hb1) (by omega) (by omega)).mono ?_
 rintro e w2 ⟨y2, a2, c2, l2, rfl, h2, hb2⟩; have hk2 := bnext hb1 hb2; clear x0 x1; obtain ⟨x0, x1⟩ := box_cells (box_after hk2 HX.out); go_wp2_with fail
 refine (IntW 44 w2 a2 c2 y2 h2 (by omega) (by omega) t.outs.length (by omega)).mono ?_
 rintro e w3 ⟨y3, a3, c3, l3, rfl, h3, hb3⟩; have hk3 := bnext hk2 hb3; clear x0 x1; obtain ⟨x0, x1⟩ := box_cells (box_after hk3 HX.out); go_wp2_with fail
 go_loopw [5, 23] (fun vb vi wr => ∃ (k : Nat) (ys : List Int) (a : Option Addr) (c : Nat), k ≤ t.outs.length ∧ vi = .int .i64 k ∧ vb = .slice a ys.length c ∧ ys.length ≤ 48 + 52 * k ∧ bytesR.rel (fun _ => True) wr [.slice a ys.length c] ys ∧ Below W.heap.size W wr) (fun _ vi _ => t.outs.length - (intOf vi).toNat)
 case atStart => exact ⟨0, y3, a3, c3, Nat.zero_le _, rfl, rfl, by omega, h3, hk3⟩
 case round =>
   obtain ⟨k, ys, a, c, hk, rfl, rfl, hyl, hys, hbr⟩ := hrel; clear x0 x1
   by_cases hlt : k < t.outs.length
   · obtain ⟨b, off, ca, cc, rfl, -, hbl, o1, o2, o3, hci, c0, c1', c2', c3'⟩ := outs_at (outsR.keepB H.out.outs hbr) k hlt
     have hc3 := Lib.hid (HF3.out t.outs[k] (List.getElem_mem hlt)); generalize t.outs[k] = o at *; have hbn := bnew (Below.refl wr.heap.size wr) (.cells #[.int .u64 o.commit, .int .u64 o.p0, .int .u64 o.p1, .slice ca o.cipher.length cc] 297); have hin := box_new wr (.cells #[.int .u64 o.commit, .int .u64 o.p0, .int .u64 o.p1, .slice ca o.cipher.length cc] 297); have HCI := Lib.hid (numsR.keepB hci hbn); have hbrn := bnext hbr hbn; have HIN := Lib.hid hin; have HYS := Lib.hid (bytesR.keepB hys hbn); clear hci hin hys; go_wp2_with fail; generalize wr.alloc (.cells #[.int .u64 o.commit, .int .u64 o.p0, .int .u64 o.p1, .slice ca o.cipher.length cc] 297) = wn at *; clear c0 c1' c2' c3'
     refine (UintW (48 + 52 * k) wn a c ys HYS.out hyl (by omega) o.commit o1).mono ?_
     rintro e w4 ⟨y4, a4, c4, l4, rfl, h4, hb4⟩; obtain ⟨x0, x1⟩ := box_cells (box_after hb4 HIN.out); go_wp2_with fail
     refine (UintW (48 + 52 * k + 8) w4 a4 c4 y4 h4 l4 (by omega) o.p0 o2).mono ?_
     rintro e w5 ⟨y5, a5, c5, l5, rfl, h5, hb5⟩; have hk5 := bnext hb4 hb5; clear x0 x1; obtain ⟨x0, x1⟩ := box_cells (box_after hk5 HIN.out); go_wp2_with fail
     refine (UintW (48 + 52 * k + 16) w5 a5 c5 y5 h5 (by omega) (by omega) o.p1 o3).mono ?_
     rintro e w6 ⟨y6, a6, c6, l6, rfl, h6, hb6⟩; have hk6 := bnext hk5 hb6; clear x0 x1; obtain ⟨x0, x1⟩ := box_cells (box_after hk6 HIN.out); go_wp2_with fail
     refine (ListW (48 + 52 * k + 24) 3 S w6 a6 c6 y6 h6 (by omega) (by omega) ca cc o.cipher (numsR.keepB HCI.out hk6) (by have := hc3.out; omega) (by omega)).mono ?_
     rintro e w7 ⟨y7, a7, c7, l7, rfl, h7, hb7⟩; go_wp2_with fail
     go_roundw
     case rel => exact ⟨k + 1, y7, a7, c7, by omega, by go_num, rfl, by omega, h7, bnext hbrn (bnext hk6 hb7)⟩
     case measure => simp [intOf]; omega
   · obtain rfl : k = t.outs.length := by omega
     obtain ⟨x0, x1⟩ := box_cells (box_after hbr HX.out); go_wp2_with fail
     refine (UintW 300 wr a c ys hys (by omega) (by omega) t.dep H.out.dep).mono ?_
     rintro e v1 ⟨z1, b1, d1, m1, rfl, g1, hc1⟩; have hj1 := bnext hbr hc1; clear x0 x1; obtain ⟨x0, x1⟩ := box_cells (box_after hj1 HX.out); go_wp2_with fail
     refine (UintW 308 v1 b1 d1 z1 g1 (by omega) (by omega) t.wd H.out.wd).mono ?_
     rintro e v2 ⟨z2, b2, d2, m2, rfl, g2, hc2⟩; have hj2 := bnext hj1 hc2; clear x0 x1; obtain ⟨x0, x1⟩ := box_cells (box_after hj2 HX.out); go_wp2_with fail
     refine (UintW 316 v2 b2 d2 z2 g2 (by omega) (by omega) t.fee H.out.fee).mono ?_
     rintro e v3 ⟨z3, b3, d3, m3, rfl, g3, hc3⟩; have hj3 := bnext hj2 hc3; clear x0 x1; obtain ⟨x0, x1⟩ := box_cells (box_after hj3 HX.out); go_wp2_with fail
     refine (UintW 324 v3 b3 d3 z3 g3 (by omega) (by omega) t.acc H.out.acc).mono ?_
     rintro e v4 ⟨z4, b4, d4, m4, rfl, g4, hc4⟩; have hj4 := bnext hj3 hc4; clear x0 x1; obtain ⟨x0, x1⟩ := box_cells (box_after hj4 HX.out); go_wp2_with fail
     refine (UintW 332 v4 b4 d4 z4 g4 (by omega) (by omega) t.nonce H.out.nonce).mono ?_
     rintro e v5 ⟨z5, b5, d5, m5, rfl, g5, hc5⟩; have hj5 := bnext hj4 hc5; clear x0 x1; obtain ⟨x0, x1⟩ := box_cells (box_after hj5 HX.out); obtain ⟨ex, hex⟩ := Int.eq_ofNat_of_zero_le f4; rw [hex] at x0; go_wp2_with fail
     refine (IntW 340 v5 b5 d5 z5 g5 (by omega) (by omega) ex (by omega)).mono ?_
     rintro e v6 ⟨z6, b6, d6, m6, rfl, g6, hc6⟩; have hj6 := bnext hj5 hc6; go_wp2_with fail
     refine (BytesW 344 v6 b6 d6 z6 g6 (by omega) (by omega)).mono ?_
     rintro e v7 ⟨z7, b7, d7, m7, rfl, g7, hc7⟩; go_wp2_with fail; go_ret
     exact ⟨z7, b7, d7, by omega, rfl, g7, bnext HB.out (bnext hj6 hc7)⟩
set_option maxHeartbeats 1000000 in
theorem bind_any (S : Nat → Prop) (w : World) (t : TxM) (ma oa pa : Option Addr) (mc oc pc : Nat) (h : TxIn S w t ma oa pa mc oc pc) (hv : validE t = 0) :
   Calls Tryz.prog 287 #[.agg #[.int .u64 t.anchor, .slice ma t.marks.length mc, .slice oa t.outs.length oc, .int .u64 t.dep, .int .u64 t.wd, .int .u64 t.fee, .int .u64 t.acc, .int .u64 t.nonce, .int .i64 t.exp, .slice pa t.proof.length pc]] w (SomeH w) := by
 have hb0 := bnew (Below.refl w.heap.size w) (.cells #[.int .u64 t.anchor, .slice ma t.marks.length mc, .slice oa t.outs.length oc, .int .u64 t.dep, .int .u64 t.wd, .int .u64 t.fee, .int .u64 t.acc, .int .u64 t.nonce, .int .i64 t.exp, .slice pa t.proof.length pc] 181); have HX := Lib.hid (box_new w (.cells #[.int .u64 t.anchor, .slice ma t.marks.length mc, .slice oa t.outs.length oc, .int .u64 t.dep, .int .u64 t.wd, .int .u64 t.fee, .int .u64 t.acc, .int .u64 t.nonce, .int .i64 t.exp, .slice pa t.proof.length pc] 181)); have H := Lib.hid (h.keepB hb0); have HB := Lib.hid hb0; have HV := Lib.hid hv; clear hb0 h hv
 go_enter Tryz.func287, Tryz.ntmps287
 go_wp2_with fail
 refine (txValid_any S _ t ma oa pa mc oc pc H.out).mono ?_
 rintro e w1 ⟨rfl, hb1⟩; rw [HV.out]; obtain ⟨x0, x1⟩ := box_cells (box_after hb1 HX.out); go_wp2_with fail
 refine (encode_any S w1 t ma oa pa mc oc pc (H.out.keepB hb1) HV.out).mono ?_
 rintro e w2 ⟨ys, a2, c2, hyl, rfl, hr, hb2⟩; go_wp2_with fail
 refine (hashBytes_any _ w2 13 (by omega) a2 c2 ys hr (by omega)).mono ?_
 rintro e w3 ⟨x, rfl, q0, q1, hb3⟩; go_wp2_with fail; go_ret
 exact ⟨x, rfl, q0, q1, bnext (bnext (bnext HB.out hb1) hb2) hb3⟩
set_option maxHeartbeats 1000000 in
theorem txOrigin_any (S : Nat → Prop) (w : World) (t : TxM) (ma oa pa : Option Addr) (mc oc pc : Nat) (h : TxIn S w t ma oa pa mc oc pc) (hv : validE t = 0) :
   Calls Tryz.prog 288 #[.agg #[.int .u64 t.anchor, .slice ma t.marks.length mc, .slice oa t.outs.length oc, .int .u64 t.dep, .int .u64 t.wd, .int .u64 t.fee, .int .u64 t.acc, .int .u64 t.nonce, .int .i64 t.exp, .slice pa t.proof.length pc]] w fun e w' => e = .returned (.int .u64 (originS t.marks t.acc t.nonce)) ∧ Below w.heap.size w w' := by
 have hb0 := bnew (Below.refl w.heap.size w) (.cells #[.int .u64 t.anchor, .slice ma t.marks.length mc, .slice oa t.outs.length oc, .int .u64 t.dep, .int .u64 t.wd, .int .u64 t.fee, .int .u64 t.acc, .int .u64 t.nonce, .int .i64 t.exp, .slice pa t.proof.length pc] 181); have HX := Lib.hid (box_new w (.cells #[.int .u64 t.anchor, .slice ma t.marks.length mc, .slice oa t.outs.length oc, .int .u64 t.dep, .int .u64 t.wd, .int .u64 t.fee, .int .u64 t.acc, .int .u64 t.nonce, .int .i64 t.exp, .slice pa t.proof.length pc] 181)); have H := Lib.hid (h.keepB hb0); have HB := Lib.hid hb0; have HV := Lib.hid hv; clear hb0 h hv
 go_enter Tryz.func288, Tryz.ntmps288
 go_wp2_with fail
 refine (txValid_any S _ t ma oa pa mc oc pc H.out).mono ?_
 rintro e w1 ⟨rfl, hb1⟩; rw [HV.out]; obtain ⟨x0, x1⟩ := box_cells (box_after hb1 HX.out); go_wp2_with fail
 refine (origin_any S w1 ma mc t.marks (numsR.keepB H.out.marks hb1) t.acc t.nonce H.out.acc H.out.nonce).mono ?_
 rintro e w2 ⟨rfl, hb2⟩; go_wp2_with fail; go_ret
 exact ⟨rfl, bnext (bnext HB.out hb1) hb2⟩
end Go.Proofs.YtphacfkcifpobaaGreatDoor
/- The wire's reader. -/
namespace Go.Proofs.YtphacfkcifpobaaGreatDoor
open Go.ChangeShapes Go.WideShapes Go.ChangeAt Go.RowKit
structure RdM where
 bytes : List Int
 pos : Nat
 failed : Bool
def RdAt (p : Nat) (w : World) (r : RdM) : Prop :=
 ∃ a cap, w.heap[p]? = some (.cells #[.slice a r.bytes.length cap, .int .i64 r.pos, .bool r.failed] 488 (0, 0)) ∧ bytesR.rel (fun k => k < p) w [.slice a r.bytes.length cap] r.bytes ∧ r.pos ≤ r.bytes.length ∧ r.bytes.length ≤ 1000000
theorem RdAt.keep {p : Nat} {w w' : World} {r : RdM} (h : RdAt p w r) (hk : Below w.heap.size w w') : RdAt p w' r := by
 obtain ⟨a, cap, h1, h2, h3⟩ := h
 exact ⟨a, cap, box_after hk h1, bytesR.keepB h2 hk, h3⟩
theorem RdAt.kept {p : Nat} {w w' : World} {r : RdM} (h : RdAt p w r) (hk : Kept (fun k => k ≤ p) w w') : RdAt p w' r := by
 obtain ⟨a, cap, h1, h2, h3⟩ := h
 exact ⟨a, cap, box_kept hk h1 (Nat.le_refl _), bytesR.keep h2 (hk.mono fun k _ h => Nat.le_of_lt h), h3⟩
def RdTo (p : Nat) (w : World) (r : RdM) (w' : World) : Prop := RdAt p w' r ∧ Kept (fun k => k ≠ p) w w'
theorem kept_next {S : Nat → Prop} {a b c : World} (h : Kept S a b) (k : Kept S b c) : Kept S a c := h.trans k fun _ _ h => h
theorem RdTo.next {p : Nat} {w w1 w2 : World} {r r' : RdM} (h : RdTo p w r w1) (k : RdTo p w1 r' w2) : RdTo p w r' w2 := ⟨k.1, kept_next h.2 k.2⟩
set_option maxHeartbeats 400000 in
theorem newReader_any (S : Nat → Prop) (w : World) (a : Option Addr) (cap : Nat) (xs : List Int) (h : bytesR.rel S w [.slice a xs.length cap] xs) (hx : xs.length ≤ 1000000) :
   Calls Tryz.prog 302 #[.slice a xs.length cap] w fun e w' => ∃ p, e = .returned (.pointer (some ⟨p, 0, none⟩)) ∧ w.heap.size ≤ p ∧ RdAt p w' ⟨xs, 0, false⟩ ∧ Below w.heap.size w w' := by
 go_enter Tryz.func302, Tryz.ntmps302
 go_wp2_with fail
 refine (room_any S w a cap xs h 0 (by omega)).mono ?_
 rintro e w1 ⟨v, rfl, ho, hb⟩; have hs := ho.slice; obtain ⟨a1, c1, rfl, -⟩ := sliceR.form hs; have HB := Lib.hid (bnew (Below.refl w1.heap.size w1) (.cells #[.slice a1 xs.length c1, .int .i64 0, .bool false] 488)); have HX := Lib.hid (box_new w1 (.cells #[.slice a1 xs.length c1, .int .i64 0, .bool false] 488)); have HS := Lib.hid (bytesR.bound hs); have HR := Lib.hid hb; clear ho hs hb; go_wp2_with fail; go_ret
 refine ⟨w1.heap.size, by simp, HR.out.size, ⟨a1, c1, HX.out, ?_, Nat.zero_le _, hx⟩, bnext HR.out HB.out⟩
 exact bytesR.mono (bytesR.keepB HS.out HB.out) fun k _ hk => hk.2
def RdM.fail (r : RdM) : RdM := ⟨r.bytes, r.pos, true⟩
def RdM.to (r : RdM) (n : Nat) : RdM := ⟨r.bytes, r.pos + n, r.failed⟩
def RdM.bad (r : RdM) (size : Nat) : Bool := r.failed || decide (r.bytes.length < r.pos + size)
def RdM.num (r : RdM) (size : Nat) : Int := leN ((r.bytes.drop r.pos).take size)
theorem left_any (w : World) (p : Nat) (r : RdM) (h : RdAt p w r) : Calls Tryz.prog 371 #[.pointer (some ⟨p, 0, none⟩)] w fun e w' => e = .returned (.int .i64 (r.bytes.length - r.pos : Nat)) ∧ Below w.heap.size w w' := by
 obtain ⟨a, cap, h1, h2, h3, h4⟩ := h; obtain ⟨c0, c1⟩ := box_cells h1; clear h1 h2
 go_enter Tryz.func371, Tryz.ntmps371
 go_wp2_with fail
 go_quiet (fail)
 go_wp2_with fail; go_ret
 exact ⟨ret_int (by omega), bdrewN (Below.refl _ _) _⟩
theorem RdM.num_step (r : RdM) (k : Nat) (h : r.pos + k < r.bytes.length) : r.num (k + 1) = r.num k + r.bytes[r.pos + k] * 256 ^ k := by
 unfold RdM.num
 have hk : k < (r.bytes.drop r.pos).length := by rw [List.length_drop]; omega
 rw [List.take_succ_eq_append_getElem hk, leN_snoc, List.length_take, Nat.min_eq_left (by omega), List.getElem_drop]
theorem RdM.num_in {r : RdM} (hb : ∀ d ∈ r.bytes, 0 ≤ d ∧ d < 256) (k : Nat) (h : r.pos + k ≤ r.bytes.length) : 0 ≤ r.num k ∧ r.num k < 256 ^ k := by
 have := leN_in ((r.bytes.drop r.pos).take k) fun d hd => hb d (List.mem_of_mem_drop (List.mem_of_mem_take hd))
 rwa [List.length_take, List.length_drop, Nat.min_eq_left (by omega)] at this
theorem RdAt.fail {p : Nat} {w : World} {r : RdM} (h : RdAt p w r) : RdTo p w r.fail (w.setCell ⟨p, 2, none⟩ (.bool true)) := by
 obtain ⟨a, cap, h1, h2, h3⟩ := h
 have hk : Kept (fun k => k ≠ p) w (w.setCell ⟨p, 2, none⟩ (.bool true)) := (Kept.refl _ _).setCell (fun _ h => h rfl) _
 exact ⟨⟨a, cap, box_set h1, bytesR.keep h2 (hk.mono fun k _ h => Nat.ne_of_lt h), h3⟩, hk⟩
theorem RdAt.to {p : Nat} {w : World} {r : RdM} (h : RdAt p w r) (n : Nat) (hn : r.pos + n ≤ r.bytes.length) : RdTo p w (r.to n) (w.setCell ⟨p, 1, none⟩ (.int .i64 (r.pos + n : Nat))) := by
 obtain ⟨a, cap, h1, h2, h3, h4⟩ := h
 have hk : Kept (fun k => k ≠ p) w (w.setCell ⟨p, 1, none⟩ (.int .i64 (r.pos + n : Nat))) := (Kept.refl _ _).setCell (fun _ h => h rfl) _
 exact ⟨⟨a, cap, box_set h1, bytesR.keep h2 (hk.mono fun k _ h => Nat.ne_of_lt h), hn, h4⟩, hk⟩
theorem RdTo.of {p : Nat} {w w1 w2 : World} {r : RdM} (hb : Below w.heap.size w w1) (h : RdTo p w1 r w2) : RdTo p w r w2 := ⟨h.1, kept_next (Kept.of_below hb) h.2⟩
theorem RdAt.drewN {p : Nat} {w : World} {r : RdM} (h : RdAt p w r) (d : Nat) : RdAt p (w.drewN d) r := h.keep (bdrewN (Below.refl _ _) d)
theorem or_step {m x : Int} (k : Nat) (hk : k < 8) (m0 : 0 ≤ m) (m1 : m < 256 ^ k) (x0 : 0 ≤ x) (x1 : x < 256) : bits BinOp.or IntKind.u64 m (IntKind.u64.wrap (x * 2 ^ (8 * k))) = m + x * 256 ^ k := by
 obtain ⟨M, rfl⟩ := Int.eq_ofNat_of_zero_le m0; obtain ⟨X, rfl⟩ := Int.eq_ofNat_of_zero_le x0
 have e : (256 : Int) ^ k = ((2 ^ (8 * k) : Nat) : Int) := by
   rw [Nat.pow_mul, Int.natCast_pow]; rfl
 have e2 : (2 : Int) ^ (8 * k) = ((2 ^ (8 * k) : Nat) : Int) := by rw [Int.natCast_pow]; rfl
 rw [e] at m1 ⊢; rw [e2]; have hM : M < 2 ^ (8 * k) := Int.ofNat_lt.1 m1
 have hp : 2 ^ (8 * k) ≤ 2 ^ 56 := Nat.pow_le_pow_right (by omega) (by omega)
 have hX : X ≤ 255 := by omega
 have hb := Nat.mul_le_mul hp hX; have h5 := Nat.two_pow_add_eq_or_of_lt hM X
 have e3 : (X : Int) * ((2 ^ (8 * k) : Nat) : Int) = ((2 ^ (8 * k) * X : Nat) : Int) := by rw [Int.natCast_mul, Int.mul_comm]
 rw [e3]; generalize 2 ^ (8 * k) * X = Y at *
 have hY : Y < 18446744073709551616 := by omega
 have hM2 : M < 18446744073709551616 := by omega
 rw [IntKind.wrap_u64, Int.emod_eq_of_lt (by omega) (by omega), bits_or_u64_nat M Y hM2 hY, Nat.or_comm, ← h5]
 omega
def RdM.dig (r : RdM) (size : Nat) : Int × Bool × RdM := if r.bad size = true then (0, false, r.fail) else (r.num size, true, r.to size)
set_option maxHeartbeats 2000000 in
theorem digits_any (w : World) (p : Nat) (r : RdM) (h : RdAt p w r) (size : Nat) (hs : size ≤ 8) :
   Calls Tryz.prog 370 #[.pointer (some ⟨p, 0, none⟩), .int .i64 size] w fun e w' => e = .returned (.tuple #[.int .u64 (r.dig size).1, .bool (r.dig size).2.1]) ∧ RdTo p w (r.dig size).2.2 w' := by
 have H := Lib.hid h; obtain ⟨a, cap, h1, h2, h3, h4⟩ := h; obtain ⟨c0, c1⟩ := box_cells h1; have HB := Lib.hid h2; clear h1 h2
 cases hf : r.failed with
 | true =>
   have HD : Hid (r.dig size = (0, false, r.fail)) := by
     show _ = _; unfold RdM.dig RdM.bad; rw [hf]; rfl
   rw [hf] at c0; have HR := Lib.hid H.out.fail
   go_enter Tryz.func370, Tryz.ntmps370
   go_wp2_with fail; go_ret2; rw [HD.out]
   exact ⟨rfl, HR.out⟩
 | false =>
   rw [hf] at c0
   go_enter Tryz.func370, Tryz.ntmps370
   go_wp2_with fail
   refine (left_any w p r H.out).mono ?_
   rintro e w1 ⟨rfl, hb1⟩; have hr1 := H.out.keep hb1; have HR1 := Lib.hid hr1; obtain ⟨a1, cap1, q1, q2, q3, q4⟩ := hr1; clear c0 c1; obtain ⟨c0, c1⟩ := box_cells q1; rw [hf] at c0; have HB1 := Lib.hid q2; clear q1 q2
   by_cases hlt : r.bytes.length - r.pos < size
   · have HD : Hid (r.dig size = (0, false, r.fail)) := by
       show _ = _; unfold RdM.dig RdM.bad; rw [hf, decide_eq_true (by omega)]; rfl
     have HR := Lib.hid (RdTo.of hb1 HR1.out.fail); go_wp2_with fail; go_ret2; rw [HD.out]
     exact ⟨rfl, HR.out⟩
   · have HD : Hid (r.dig size = (r.num size, true, r.to size)) := by
       show _ = _; unfold RdM.dig RdM.bad; rw [hf, decide_eq_false (by omega)]; rfl
     have hle : r.pos + size ≤ r.bytes.length := by omega
     have hby : ∀ d ∈ r.bytes, 0 ≤ d ∧ d < 256 := fun d hd => okB_in (ints_wf HB1.out d hd)
     have HBY := Lib.hid hby; clear hby; go_wp2_with fail
     go_loopw [6, 22] (fun vn vi wr => ∃ k : Nat, k ≤ size ∧ vi = .int .i64 k ∧ vn = .int .u64 (r.num k) ∧ ∃ d, wr = w1.drewN d) (fun _ vi _ => size - (intOf vi).toNat)
     case atStart => exact ⟨0, Nat.zero_le _, rfl, by simp [RdM.num, leN], 0, rfl⟩
     case round =>
       obtain ⟨k, hk, rfl, rfl, d, rfl⟩ := hrel
       by_cases hks : k < size
       · have hpk : r.pos + k < r.bytes.length := by omega
         obtain ⟨b, off, rfl, hbl, hbp, d0, d1, hc⟩ := bytes_at HB1.out (r.pos + k) hpk
         have hn := RdM.num_in HBY.out k (by omega)
         have HS := Lib.hid (r.num_step k hpk); generalize r.bytes[r.pos + k] = x at *; generalize r.num k = m at *; go_wp2_with fail
         go_quiet (fail)
         go_wp2_with fail
         go_roundw
         case rel =>
           refine ⟨k + 1, by omega, by go_num, ?_, ?_⟩
           · rw [HS.out]
             rw [or_step k (by omega) hn.1 hn.2 d0 d1]
           · exact ⟨d + nq, rfl⟩
         case measure => simp [intOf]; omega
       · obtain rfl : k = size := by omega
         have HR := Lib.hid (RdTo.of (bdrewN hb1 d) (RdAt.to (RdAt.drewN HR1.out d) k hle)); go_wp2_with fail; go_ret2; rw [HD.out]
         exact ⟨rfl, HR.out⟩
theorem RdAt.okb {p : Nat} {w : World} {r : RdM} (h : RdAt p w r) : ∀ d ∈ r.bytes, 0 ≤ d ∧ d < 256 := by
 obtain ⟨a, cap, h1, h2, h3⟩ := h
 exact fun d hd => okB_in (ints_wf h2 d hd)
theorem RdAt.dig_in {p : Nat} {w : World} {r : RdM} (h : RdAt p w r) (size : Nat) : 0 ≤ (r.dig size).1 ∧ (r.dig size).1 < 256 ^ size := by
 unfold RdM.dig
 split
 · exact ⟨Int.le_refl _, Int.pow_pos (by omega)⟩
 · rename_i hb
   refine RdM.num_in h.okb size ?_
   unfold RdM.bad at hb
   simp at hb
   omega
def RdM.uint (r : RdM) (most : Int) : Int × RdM := if (r.dig 8).2.1 = false ∨ most < (r.dig 8).1 then (0, (r.dig 8).2.2.fail) else ((r.dig 8).1, (r.dig 8).2.2)
def RdM.int (r : RdM) (most : Int) : Int × RdM := if (r.dig 4).2.1 = false ∨ most < (r.dig 4).1 then (0, (r.dig 4).2.2.fail) else ((r.dig 4).1, (r.dig 4).2.2)
set_option maxHeartbeats 1000000 in
theorem rdUint_any (w : World) (p : Nat) (r : RdM) (h : RdAt p w r) (most : Int) (m0 : 0 ≤ most) :
   Calls Tryz.prog 303 #[.pointer (some ⟨p, 0, none⟩), .int .u64 most] w fun e w' => e = .returned (.int .u64 (r.uint most).1) ∧ RdTo p w (r.uint most).2 w' ∧ 0 ≤ (r.uint most).1 ∧ (r.uint most).1 ≤ most := by
 have hd := h.dig_in 8; have HU : Hid (r.uint most = if (r.dig 8).2.1 = false ∨ most < (r.dig 8).1 then (0, (r.dig 8).2.2.fail) else ((r.dig 8).1, (r.dig 8).2.2)) := rfl
 go_enter Tryz.func303, Tryz.ntmps303
 go_wp2_with fail
 refine (digits_any w p r h 8 (by omega)).mono ?_
 rintro e w1 ⟨rfl, hr⟩; generalize r.dig 8 = t at *; obtain ⟨n, ok, r'⟩ := t
 simp only at hd hr HU ⊢
 have HR := Lib.hid hr; have HF := Lib.hid (RdTo.next hr hr.1.fail); obtain ⟨a, cap, h1, -⟩ := hr.1; obtain ⟨c0, c1⟩ := box_cells h1; clear h1 hr h
 cases ok with
 | false =>
   have HV : Hid (r.uint most = (0, r'.fail)) := by show _ = _; rw [HU.out, if_pos (.inl rfl)]
   clear HU; go_wp2_with fail; go_ret; rw [HV.out]
   exact ⟨rfl, HF.out, Int.le_refl _, m0⟩
 | true =>
   by_cases hlt : most < n
   · have HV : Hid (r.uint most = (0, r'.fail)) := by show _ = _; rw [HU.out, if_pos (.inr hlt)]
     clear HU; go_wp2_with fail; go_ret; rw [HV.out]
     exact ⟨rfl, HF.out, Int.le_refl _, m0⟩
   · have HV : Hid (r.uint most = (n, r')) := by show _ = _; rw [HU.out, if_neg (fun h => h.elim (fun h => by cases h) hlt)]
     clear HU; go_wp2_with fail; go_ret; rw [HV.out]
     exact ⟨rfl, HR.out, hd.1, by omega⟩
set_option maxHeartbeats 1000000 in
theorem rdInt_any (w : World) (p : Nat) (r : RdM) (h : RdAt p w r) (most : Int) (m0 : 0 ≤ most) (_m1 : most ≤ 4294967295) :
   Calls Tryz.prog 305 #[.pointer (some ⟨p, 0, none⟩), .int .i64 most] w fun e w' => e = .returned (.int .i64 (r.int most).1) ∧ RdTo p w (r.int most).2 w' ∧ 0 ≤ (r.int most).1 ∧ (r.int most).1 ≤ most := by
 have hd := h.dig_in 4; have HU : Hid (r.int most = if (r.dig 4).2.1 = false ∨ most < (r.dig 4).1 then (0, (r.dig 4).2.2.fail) else ((r.dig 4).1, (r.dig 4).2.2)) := rfl
 go_enter Tryz.func305, Tryz.ntmps305
 go_wp2_with fail
 refine (digits_any w p r h 4 (by omega)).mono ?_
 rintro e w1 ⟨rfl, hr⟩; generalize r.dig 4 = t at *; obtain ⟨n, ok, r'⟩ := t
 simp only at hd hr HU ⊢
 have hd2 : n < 4294967296 := by simpa using hd.2
 have hd1 := hd.1; clear hd; have HR := Lib.hid hr; have HF := Lib.hid (RdTo.next hr hr.1.fail); obtain ⟨a, cap, h1, -⟩ := hr.1; obtain ⟨c0, c1⟩ := box_cells h1; clear h1 hr h
 cases ok with
 | false =>
   have HV : Hid (r.int most = (0, r'.fail)) := by show _ = _; rw [HU.out, if_pos (.inl rfl)]
   clear HU; go_wp2_with fail; go_ret; rw [HV.out]
   exact ⟨rfl, HF.out, Int.le_refl _, m0⟩
 | true =>
   by_cases hlt : most < n
   · have HV : Hid (r.int most = (0, r'.fail)) := by show _ = _; rw [HU.out, if_pos (.inr hlt)]
     clear HU; go_wp2_with fail; go_ret; rw [HV.out]
     exact ⟨rfl, HF.out, Int.le_refl _, m0⟩
   · have HV : Hid (r.int most = (n, r')) := by show _ = _; rw [HU.out, if_neg (fun h => h.elim (fun h => by cases h) hlt)]
     clear HU; go_wp2_with fail; go_ret; rw [HV.out]
     exact ⟨rfl, HR.out, hd1, by omega⟩
theorem nat_eq_dec (a b : Nat) : ((a : Int) == (b : Int)) = decide (a = b) := by
 rw [Bool.eq_iff_iff, beq_iff_eq, decide_eq_true_eq]; omega
def RdM.done (r : RdM) : Bool := !r.failed && decide (r.pos = r.bytes.length)
set_option maxHeartbeats 1000000 in
theorem done_any (w : World) (p : Nat) (r : RdM) (h : RdAt p w r) : Calls Tryz.prog 307 #[.pointer (some ⟨p, 0, none⟩)] w fun e w' => e = .returned (.bool r.done) ∧ Below w.heap.size w w' := by
 obtain ⟨a, cap, h1, h2, h3, h4⟩ := h; obtain ⟨c0, c1⟩ := box_cells h1; clear h1 h2
 cases hf : r.failed with
 | true =>
   rw [hf] at c0
   have HD : Hid (r.done = false) := by show _ = _; unfold RdM.done; rw [hf]; rfl
   go_enter Tryz.func307, Tryz.ntmps307
   go_wp2_with fail
   go_quiet (fail)
   go_wp2_with fail; go_ret
   exact ⟨ret_bool HD.out.symm, bdrewN (Below.refl _ _) _⟩
 | false =>
   rw [hf] at c0
   have HD : Hid (r.done = decide (r.pos = r.bytes.length)) := by show _ = _; unfold RdM.done; rw [hf]; rfl
   go_enter Tryz.func307, Tryz.ntmps307
   go_wp2_with fail
   go_quiet (fail)
   go_wp2_with fail; go_ret; rw [HD.out]
   refine ⟨ret_bool (nat_eq_dec _ _), bdrewN (Below.refl _ _) _⟩
end Go.Proofs.YtphacfkcifpobaaGreatDoor
/- The reader's lists. -/
namespace Go.Proofs.YtphacfkcifpobaaGreatDoor
open Go.ChangeShapes Go.WideShapes Go.ChangeAt Go.RowKit
def RdM.many (p : Int) : Nat → RdM → List Int → List Int × RdM
 | 0, r, acc => (acc, r)
 | k + 1, r, acc => if p ≤ (r.dig 8).1 then ([], (r.dig 8).2.2.fail) else RdM.many p k (r.dig 8).2.2 (acc ++ [(r.dig 8).1])
def RdM.list (r : RdM) (most p : Int) : List Int × RdM :=
 if (r.int most).2.failed = true ∨ (((r.int most).2.bytes.length - (r.int most).2.pos : Nat) : Int) / 8 < (r.int most).1 then ([], (r.int most).2.fail) else RdM.many p (r.int most).1.toNat (r.int most).2 []
def rowS (acc : List Int) (k : Nat) : List Value := (acc ++ List.replicate k 0).map (Value.int .u64)
theorem rowS_set (acc : List Int) (k : Nat) (x : Int) : (rowS acc (k + 1)).toArray.setIfInBounds acc.length (.int .u64 x) = (rowS (acc ++ [x]) k).toArray := by
 apply Array.ext'
 simp [rowS, List.replicate_succ]
theorem rowS_zero (acc : List Int) : rowS acc 0 = acc.map (Value.int .u64) := by simp [rowS]
theorem madeRow (n : Nat) : madeCells #[Value.int .u64 0] n = (rowS [] n).toArray := by
 apply Array.ext'
 apply List.ext_getElem?
 intro j
 rcases Nat.lt_or_ge j n with h | h
 · have hm : j % 1 = 0 := Nat.mod_one j
   simp [madeCells, rowS, h, hm]
 · simp [madeCells, rowS, h]
def GaveList (p : Nat) (w : World) (x : List Int × RdM) (e : Ending) (w' : World) : Prop :=
 ∃ a cap, e = .returned (.slice a x.1.length cap) ∧ numsR.rel (fun k => w.heap.size ≤ k) w' [.slice a x.1.length cap] x.1 ∧ RdTo p w x.2 w'
theorem RdTo.sizes {p : Nat} {w w' : World} {r : RdM} (h : RdTo p w r w') : w.heap.size ≤ w'.heap.size := h.2.size
theorem RdAt.lt {p : Nat} {w : World} {r : RdM} (h : RdAt p w r) : p < w.heap.size := by
 obtain ⟨a, cap, h1, -⟩ := h
 exact box_lt h1
set_option maxHeartbeats 3000000 in
theorem rdList_any (w : World) (p : Nat) (r : RdM) (h : RdAt p w r) (most pr : Int) (m0 : 0 ≤ most) (m1 : most ≤ 1000) :
   Calls Tryz.prog 304 #[.pointer (some ⟨p, 0, none⟩), .int .i64 most, .int .u64 pr] w (GaveList p w (r.list most pr)) := by
 have HLT := Lib.hid h.lt
 go_enter Tryz.func304, Tryz.ntmps304
 go_wp2_with fail
 refine (rdInt_any w p r h most m0 (by omega)).mono ?_
 rintro e w1 ⟨rfl, hr, n0, n1⟩; have HU : Hid (r.list most pr = if (r.int most).2.failed = true ∨ (((r.int most).2.bytes.length - (r.int most).2.pos : Nat) : Int) / 8 < (r.int most).1 then ([], (r.int most).2.fail) else RdM.many pr (r.int most).1.toNat (r.int most).2 []) := rfl; generalize r.int most = t at *; obtain ⟨n, r1⟩ := t
 simp only at hr n0 n1 HU ⊢
 have HR := Lib.hid hr; have HF := Lib.hid (RdTo.next hr hr.1.fail); obtain ⟨a, cap, h1, -, h3, h4⟩ := hr.1; obtain ⟨c0, c1⟩ := box_cells h1; clear h1 hr h
 cases hf : r1.failed with
 | true =>
   have HV : Hid (r.list most pr = ([], r1.fail)) := by show _ = _; rw [HU.out, if_pos (.inl hf)]
   rw [hf] at c0; clear HU; go_wp2_with fail; go_ret; rw [HV.out]
   exact ⟨none, 0, rfl, sliceR.nil, HF.out⟩
 | false =>
   rw [hf] at c0; go_wp2_with fail
   refine (left_any w1 p r1 HR.out.1).mono ?_
   rintro e w2 ⟨rfl, hb2⟩; have HR2 := Lib.hid (⟨HR.out.1.keep hb2, kept_next HR.out.2 (Kept.of_below hb2)⟩ : RdTo p w r1 w2); have HF2 := Lib.hid (RdTo.next HR2.out HR2.out.1.fail); clear c0 c1 HF; obtain ⟨a2, cap2, q1, -, -, -⟩ := HR2.out.1; obtain ⟨c0, c1⟩ := box_cells q1; clear q1; rw [hf] at c0
   by_cases hlt : ((r1.bytes.length - r1.pos : Nat) : Int) / 8 < n
   · have HV : Hid (r.list most pr = ([], r1.fail)) := by show _ = _; rw [HU.out, if_pos (.inr hlt)]
     clear HU; go_wp2_with fail; go_ret; rw [HV.out]
     exact ⟨none, 0, rfl, sliceR.nil, HF2.out⟩
   · have HV : Hid (r.list most pr = RdM.many pr n.toNat r1 []) := by show _ = _; rw [HU.out, if_neg (fun h => h.elim (fun h => by rw [hf] at h; cases h) hlt)]
     clear HU; obtain ⟨N, rfl⟩ := Int.eq_ofNat_of_zero_le n0; rw [Int.toNat_natCast] at HV
     have hN : N ≤ 1000 := by omega
     go_wp2_with (at_make; refine wpList_make_cells rfl _ _ rfl Tryz.etyNums (z := .int .u64 0) (by kernel_rfl) (n := N) rfl rfl rfl rfl ?_ ?_ ?_)
     · omega
     · unfold maxLen; omega
     have hg3 := box_new w2 (.cells (rowS [] N).toArray 24); have hb3 := bnew (Below.refl w2.heap.size w2) (.cells (rowS [] N).toArray 24); rw [madeRow]; have HG3 := Lib.hid hg3; have HB3 := Lib.hid hb3; generalize w2.alloc (.cells (rowS [] N).toArray 24) = w3 at *; have hgs : w.heap.size ≤ w2.heap.size := HR2.out.2.size; clear hg3 hb3 c0 c1; have HR3 := Lib.hid (⟨HR2.out.1.keep HB3.out, kept_next HR2.out.2 (Kept.of_below HB3.out)⟩ : RdTo p w r1 w3); generalize hG : w2.heap.size = G at *
     have hpG : p < G := by have := HLT.out; omega
     go_loopw [31] (fun vi wr => ∃ (k : Nat) (rd : RdM) (acc : List Int), k ≤ N ∧ vi = .int .i64 k ∧ acc.length = k ∧ (∀ x ∈ acc, okU x) ∧ RdTo p w rd wr ∧ wr.heap[G]? = some (.cells (rowS acc (N - k)).toArray 24 (0, 0)) ∧ Hid (RdM.many pr (N - k) rd acc = RdM.many pr N r1 [])) (fun vi _ => N - (intOf vi).toNat)
     case atStart => exact ⟨0, r1, [], Nat.zero_le _, rfl, rfl, fun x h => by simp at h, HR3.out, HG3.out, rfl⟩
     case round =>
       obtain ⟨k, rd, acc, hk, rfl, hacc, hok, hrd, hrow, hinv⟩ := hrel
       by_cases hks : k < N
       · obtain ⟨j, hj⟩ : ∃ j, N - k = j + 1 := ⟨N - k - 1, by omega⟩
         have hj2 : N - (k + 1) = j := by omega
         rw [hj] at hrow hinv; have HROW := Lib.hid hrow; have HRD := Lib.hid hrd; have hdi := hrd.1.dig_in 8; have HU : Hid (RdM.many pr (j + 1) rd acc = if pr ≤ (rd.dig 8).1 then ([], (rd.dig 8).2.2.fail) else RdM.many pr j (rd.dig 8).2.2 (acc ++ [(rd.dig 8).1])) := rfl; clear hrow; go_wp2_with fail
         refine (digits_any _ p rd hrd.1 8 (by omega)).mono ?_
         rintro e w4 ⟨rfl, hr4⟩; generalize rd.dig 8 = t at *; obtain ⟨x, ok, r4⟩ := t
         simp only at hr4 hdi HU ⊢
         have hx1 : x < 18446744073709551616 := by simpa using hdi.2
         have hx0 := hdi.1; clear hdi
         have hrow4 := box_kept hr4.2 HROW.out (show G ≠ p by omega)
         obtain ⟨d0, d1⟩ := box_cells hrow4
         have hlen4 : (rowS acc (j + 1)).length = N := by unfold rowS; simp; omega
         have HSET := Lib.hid (rowS_set acc j x); rw [hacc] at HSET; have hnew := box_set (i := k) (v := .int .u64 x) hrow4; rw [HSET.out] at hnew; have HNEW := Lib.hid hnew
         have hck : w4.cell? ⟨G, k, none⟩ = some (.int .u64 0) := by rw [d0]; simp [rowS, hacc]
         have hgk := World.cell?_setCell_same w4 ⟨G, k, none⟩ (.int .u64 x) hck
         have R5 : Hid (RdTo p w r4 (w4.setCell ⟨G, k, none⟩ (.int .u64 x))) := by
           have hk5 : Kept (fun i => i ≤ p) w4 (w4.setCell ⟨G, k, none⟩ (.int .u64 x)) := (Kept.refl _ _).setCell (fun _ h => by have h' : G ≤ p := h; omega) _
           have hk6 : Kept (fun i => i ≠ p) w (w4.setCell ⟨G, k, none⟩ (.int .u64 x)) := (kept_next HRD.out.2 hr4.2).setCell (fun h => by have h' : G < w.heap.size := h; omega) _
           exact ⟨hr4.1.kept hk5, hk6⟩
         clear hnew hrow4 d0 hrd
         by_cases hpx : pr ≤ x
         · have HE : Hid (r.list most pr = ([], r4.fail)) := by show _ = _; rw [HV.out, ← hinv.out, HU.out, if_pos hpx]
           have HF5 := Lib.hid (RdTo.next R5.out R5.out.1.fail); obtain ⟨a5, cap5, q5, -, -, -⟩ := R5.out.1; obtain ⟨e0, e1⟩ := box_cells q5; clear q5; go_wp2_with fail; go_ret; rw [HE.out]
           exact ⟨none, 0, rfl, sliceR.nil, HF5.out⟩
         · have HI : Hid (RdM.many pr j r4 (acc ++ [x]) = RdM.many pr N r1 []) := by show _ = _; rw [← hinv.out, HU.out, if_neg hpx]
           go_wp2_with fail
           go_roundw
           case rel => exact ⟨k + 1, r4, acc ++ [x], by omega, by go_num, by simp [hacc], fun y hy => by rcases List.mem_append.1 hy with h | h; exact hok y h; simp at h; subst h; exact okU_of hx0 hx1, R5.out, by rw [hj2]; exact HNEW.out, by rw [hj2]; exact HI⟩
           case measure => simp [intOf]; omega
       · obtain rfl : k = N := by omega
         rw [Nat.sub_self] at hrow hinv; rw [rowS_zero] at hrow
         have HE : Hid (r.list most pr = (acc, rd)) := by show _ = _; rw [HV.out, ← hinv.out]; rfl
         have hown : Own (intR .u64) w.heap.size 24 (fun x => False ∨ w.heap.size ≤ x) wr (.slice (some ⟨G, 0, none⟩) acc.length acc.length) acc :=
           own_ints (cur := acc.map (Value.int .u64)) hrow (by rw [List.length_map]) (List.take_of_length_le (by rw [List.length_map]; exact Nat.le_refl _)) hok (Nat.le_refl _) (by unfold maxLen; omega) (by omega)
         have HS : Hid (numsR.rel (fun k => w.heap.size ≤ k) wr [.slice (some ⟨G, 0, none⟩) acc.length acc.length] acc) := numsR.mono hown.slice (fun i _ h => h.resolve_left id)
         clear hown hrow; subst hacc; go_wp2_with fail; go_ret; rw [HE.out]
         exact ⟨some ⟨G, 0, none⟩, acc.length, rfl, HS.out, hrd⟩
end Go.Proofs.YtphacfkcifpobaaGreatDoor
