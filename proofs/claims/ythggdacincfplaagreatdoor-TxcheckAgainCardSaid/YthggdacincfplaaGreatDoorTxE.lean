/- Transactions: clones, bytes, the digest of all but the proof, origins. -/
import Derived.Test.YthggdacincfplaaGreatDoorTxW
import Derived.Test.YthggdacincfplaaGreatDoorPack
import Derived.Test.YthggdacincfplaaGreatDoorHash
import Derived.Laws.Cover3
namespace Go.Proofs.YthggdacincfplaaGreatDoor
open Go.ChangeShapes Go.WideShapes Go.ChangeAt Go.RowKit

theorem eql_nil (a : Option Addr) (l c : Nat) (w : World) : (binOp .eql 32 (.slice a l c) (.slice none 0 0)).run Tryz.prog w = .ok (.bool a.isNone) w := by
  simp only [binOp]
  simp [run_equal_slice_nil w 32 24 a l c Tryz.underlying32]
set_option maxRecDepth 100000 in
set_option maxHeartbeats 1000000 in
theorem clone_any (S : Nat → Prop) (w : World) (a : Option Addr) (cap : Nat) (l : List Int) (h : numsR.rel S w [.slice a l.length cap] l) (hl : l.length ≤ 1000000) :
    Calls Tryz.prog 27 #[.slice a l.length cap] w (GivesS u64R (fun k => w.heap.size ≤ k) l w) := by
  have hen := eql_nil
  cases a with
  | none =>
    have hl0 : l = [] := by
      cases l with
      | nil => rfl
      | cons x xs => obtain ⟨b, off, h1, -⟩ := nums_at h 0 (by simp); cases h1
    subst hl0
    go_enter Tryz.func27, Tryz.ntmps27
    go_wp2_with fail
    go_ret
    exact ⟨none, 0, rfl, sliceR.nil, Below.refl _ _⟩
  | some ad =>
    have hb0 := bnew (Below.refl w.heap.size w) (.cells #[] 24)
    have HO := Lib.hid (Own.empty u64R w.heap.size 24 (box_new w (.cells #[] 24)) (Nat.le_refl _))
    have HS := Lib.hid (Src.plain (S' := fun _ => False) (Plain.int .u64) (Src.of_slice (numsR.keepB h hb0)))
    have HB := Lib.hid hb0
    clear h hb0
    go_enter Tryz.func27, Tryz.ntmps27
    go_wp2_with (at_builtin; refine wpList_append_rel (r := u64R) (base := w.heap.size) rfl _ _ rfl Tryz.etyNums rfl rfl HO.out HS.out (fun _ _ h => h.elim) (fun _ _ h => h) (by unfold maxLen; simp; omega) (by simp; omega) (by rw [World.size_alloc]; omega) ?_)
    intro v3 w3 ho3 hk3 _
    have hb3 : Below w.heap.size w w3 := Kept.behind HB.out hk3 (by rw [World.size_alloc]; omega) fun k hk h => by have := (HO.out.lt h).2.2; omega
    have HG := Lib.hid (GivesS.mk (numsR.mono ho3.slice (S' := fun k => w.heap.size ≤ k) fun k _ h => by rcases h with h | h <;> omega) hb3)
    clear ho3
    go_wp2_with fail
    go_ret
    exact HG.out

/-- Some bytes were returned, in new memory. -/
def SomeB (N : Nat) (w : World) (e : Ending) (w' : World) : Prop := ∃ (ys : List Int) (a : Option Addr) (cap : Nat), ys.length ≤ N ∧ e = .returned (.slice a ys.length cap) ∧ bytesR.rel (fun _ => True) w' [.slice a ys.length cap] ys ∧ Below w.heap.size w w'
theorem GivesS.someB {ys : List Int} {N : Nat} {w w' : World} {e : Ending} (h : GivesB ys w e w') (hl : ys.length ≤ N) : SomeB N w e w' := by
  obtain ⟨a, cap, h1, h2, h3⟩ := h
  exact ⟨ys, a, cap, hl, h1, h2, h3⟩
theorem UintW (N : Nat) (w : World) (a : Option Addr) (cap : Nat) (xs : List Int) (h : bytesR.rel (fun _ => True) w [.slice a xs.length cap] xs) (hx : xs.length ≤ N) (hN : N ≤ 100000) (n : Int) (hn : okU n) :
    Calls Tryz.prog 104 #[.slice a xs.length cap, .int .u64 n] w (SomeB (N + 8) w) :=
  (Uint_any _ w a cap xs h n (okU_in hn).1 (okU_in hn).2 (by omega)).mono fun _ _ h => GivesS.someB h (by rw [List.length_append, digs_len]; omega)
theorem IntW (N : Nat) (w : World) (a : Option Addr) (cap : Nat) (xs : List Int) (h : bytesR.rel (fun _ => True) w [.slice a xs.length cap] xs) (hx : xs.length ≤ N) (hN : N ≤ 100000) (n : Nat) (hn : n ≤ 4294967295) :
    Calls Tryz.prog 106 #[.slice a xs.length cap, .int .i64 n] w (SomeB (N + 4) w) :=
  (Int_any _ w a cap xs h n hn (by omega)).mono fun _ _ h => GivesS.someB h (by rw [List.length_append, digs_len]; omega)
theorem ListW (N M : Nat) (S' : Nat → Prop) (w : World) (a : Option Addr) (cap : Nat) (xs : List Int) (h : bytesR.rel (fun _ => True) w [.slice a xs.length cap] xs) (hx : xs.length ≤ N) (hN : N ≤ 100000) (la : Option Addr) (lc : Nat) (l : List Int) (hl : numsR.rel S' w [.slice la l.length lc] l) (hM : l.length ≤ M) (hM2 : M ≤ 100) :
    Calls Tryz.prog 105 #[.slice a xs.length cap, .slice la l.length lc] w (SomeB (N + 4 + 8 * M) w) :=
  (List_any _ S' w a cap xs h la lc l hl (by omega) (by omega)).mono fun _ _ h => GivesS.someB h (by simp only [List.length_append, digs_len, digsAll_len]; omega)
theorem BytesW (N : Nat) (w : World) (a : Option Addr) (cap : Nat) (xs : List Int) (h : bytesR.rel (fun _ => True) w [.slice a xs.length cap] xs) (hx : xs.length ≤ N) (hN : N ≤ 100000) :
    Calls Tryz.prog 107 #[.slice a xs.length cap, .slice none 0 0] w (SomeB (N + 4) w) :=
  (Bytes_any _ (fun _ => True) w a cap xs h none 0 [] sliceR.nil (by omega) (by simp)).mono fun _ _ h => GivesS.someB h (by simp [digs_len]; omega)

theorem validE_facts {t : TxM} (h : validE t = 0) : t.marks.length ≤ 4 ∧ t.outs.length ≤ 4 ∧ (∀ o ∈ t.outs, o.cipher.length = 3) ∧ 0 ≤ t.exp ∧ t.exp ≤ 1048576 ∧ t.proof.length ≤ 1048576 := by
  unfold validE at h
  split at h
  · rename_i hc
    split at h
    · rename_i hp
      unfold marksB outsB restB at hc
      simp only [Bool.and_eq_true, decide_eq_true_eq] at hc
      obtain ⟨h1, h2, -, h3⟩ := hc
      refine ⟨h1.1, h2.1, fun o ho => ?_, h3.2.1, h3.2.2, hp⟩
      have := List.all_eq_true.1 h2.2 o ho
      unfold outB at this
      simp only [Bool.and_eq_true, decide_eq_true_eq] at this
      exact this.2.2.1
    · simp at h
  · simp at h

set_option maxRecDepth 100000 in
set_option maxHeartbeats 4000000 in
theorem encode_any (S : Nat → Prop) (w : World) (t : TxM) (ma oa pa : Option Addr) (mc oc pc : Nat) (h : TxIn S w t ma oa pa mc oc pc) (hv : validE t = 0) :
    Calls Tryz.prog 54 #[.agg #[.int .u64 t.anchor, .slice ma t.marks.length mc, .slice oa t.outs.length oc, .int .u64 t.dep, .int .u64 t.wd, .int .u64 t.fee, .int .u64 t.acc, .int .u64 t.nonce, .int .i64 t.exp, .slice pa t.proof.length pc], .slice none 0 0] w (SomeB 2000 w) := by
  obtain ⟨f1, f2, f3, f4, f5, f6⟩ := validE_facts hv
  have hb0 := bnew (Below.refl w.heap.size w) (.cells #[.int .u64 t.anchor, .slice ma t.marks.length mc, .slice oa t.outs.length oc, .int .u64 t.dep, .int .u64 t.wd, .int .u64 t.fee, .int .u64 t.acc, .int .u64 t.nonce, .int .i64 t.exp, .slice pa t.proof.length pc] 36)
  have HX := Lib.hid (box_new w (.cells #[.int .u64 t.anchor, .slice ma t.marks.length mc, .slice oa t.outs.length oc, .int .u64 t.dep, .int .u64 t.wd, .int .u64 t.fee, .int .u64 t.acc, .int .u64 t.nonce, .int .i64 t.exp, .slice pa t.proof.length pc] 36))
  have H := Lib.hid (h.keepB hb0)
  have HB := Lib.hid hb0
  have HF3 := Lib.hid f3
  clear hb0 h hv f3
  go_enter Tryz.func54, Tryz.ntmps54
  go_wp2_with fail
  generalize w.alloc (.cells #[.int .u64 t.anchor, .slice ma t.marks.length mc, .slice oa t.outs.length oc, .int .u64 t.dep, .int .u64 t.wd, .int .u64 t.fee, .int .u64 t.acc, .int .u64 t.nonce, .int .i64 t.exp, .slice pa t.proof.length pc] 36) = W at *
  refine (UintW 0 W none 0 [] sliceR.nil (Nat.le_refl _) (by omega) t.anchor H.out.anchor).mono ?_
  rintro e w1 ⟨y1, a1, c1, l1, rfl, h1, hb1⟩
  obtain ⟨x0, x1⟩ := box_cells (box_after hb1 HX.out)
  go_wp2_with fail
  refine (ListW 8 4 S w1 a1 c1 y1 h1 (by omega) (by omega) ma mc t.marks (numsR.keepB H.out.marks hb1) (by omega) (by omega)).mono ?_
  rintro e w2 ⟨y2, a2, c2, l2, rfl, h2, hb2⟩
  have hk2 := bnext hb1 hb2
  clear x0 x1
  obtain ⟨x0, x1⟩ := box_cells (box_after hk2 HX.out)
  go_wp2_with fail
  refine (IntW 44 w2 a2 c2 y2 h2 (by omega) (by omega) t.outs.length (by omega)).mono ?_
  rintro e w3 ⟨y3, a3, c3, l3, rfl, h3, hb3⟩
  have hk3 := bnext hk2 hb3
  clear x0 x1
  obtain ⟨x0, x1⟩ := box_cells (box_after hk3 HX.out)
  go_wp2_with fail
  go_loopw [5, 23] (fun vb vi wr => ∃ (k : Nat) (ys : List Int) (a : Option Addr) (c : Nat), k ≤ t.outs.length ∧ vi = .int .i64 k ∧ vb = .slice a ys.length c ∧ ys.length ≤ 48 + 52 * k ∧ bytesR.rel (fun _ => True) wr [.slice a ys.length c] ys ∧ Below W.heap.size W wr) (fun _ vi _ => t.outs.length - (intOf vi).toNat)
  case atStart => exact ⟨0, y3, a3, c3, Nat.zero_le _, rfl, rfl, by omega, h3, hk3⟩
  case round =>
    obtain ⟨k, ys, a, c, hk, rfl, rfl, hyl, hys, hbr⟩ := hrel
    clear x0 x1
    by_cases hlt : k < t.outs.length
    · obtain ⟨b, off, ca, cc, rfl, -, hbl, o1, o2, o3, hci, c0, c1', c2', c3'⟩ := outs_at (outsR.keepB H.out.outs hbr) k hlt
      have hc3 := Lib.hid (HF3.out t.outs[k] (List.getElem_mem hlt))
      generalize t.outs[k] = o at *
      have hbn := bnew (Below.refl wr.heap.size wr) (.cells #[.int .u64 o.commit, .int .u64 o.p0, .int .u64 o.p1, .slice ca o.cipher.length cc] 48)
      have hin := box_new wr (.cells #[.int .u64 o.commit, .int .u64 o.p0, .int .u64 o.p1, .slice ca o.cipher.length cc] 48)
      have HCI := Lib.hid (numsR.keepB hci hbn)
      have hbrn := bnext hbr hbn
      have HIN := Lib.hid hin
      have HYS := Lib.hid (bytesR.keepB hys hbn)
      clear hci hin hys
      go_wp2_with fail
      generalize wr.alloc (.cells #[.int .u64 o.commit, .int .u64 o.p0, .int .u64 o.p1, .slice ca o.cipher.length cc] 48) = wn at *
      clear c0 c1' c2' c3'
      refine (UintW (48 + 52 * k) wn a c ys HYS.out hyl (by omega) o.commit o1).mono ?_
      rintro e w4 ⟨y4, a4, c4, l4, rfl, h4, hb4⟩
      obtain ⟨x0, x1⟩ := box_cells (box_after hb4 HIN.out)
      go_wp2_with fail
      refine (UintW (48 + 52 * k + 8) w4 a4 c4 y4 h4 l4 (by omega) o.p0 o2).mono ?_
      rintro e w5 ⟨y5, a5, c5, l5, rfl, h5, hb5⟩
      have hk5 := bnext hb4 hb5
      clear x0 x1
      obtain ⟨x0, x1⟩ := box_cells (box_after hk5 HIN.out)
      go_wp2_with fail
      refine (UintW (48 + 52 * k + 16) w5 a5 c5 y5 h5 (by omega) (by omega) o.p1 o3).mono ?_
      rintro e w6 ⟨y6, a6, c6, l6, rfl, h6, hb6⟩
      have hk6 := bnext hk5 hb6
      clear x0 x1
      obtain ⟨x0, x1⟩ := box_cells (box_after hk6 HIN.out)
      go_wp2_with fail
      refine (ListW (48 + 52 * k + 24) 3 S w6 a6 c6 y6 h6 (by omega) (by omega) ca cc o.cipher (numsR.keepB HCI.out hk6) (by have := hc3.out; omega) (by omega)).mono ?_
      rintro e w7 ⟨y7, a7, c7, l7, rfl, h7, hb7⟩
      go_wp2_with fail
      go_roundw
      case rel => exact ⟨k + 1, y7, a7, c7, by omega, by go_num, rfl, by omega, h7, bnext hbrn (bnext hk6 hb7)⟩
      case measure => simp [intOf]; omega
    · obtain rfl : k = t.outs.length := by omega
      obtain ⟨x0, x1⟩ := box_cells (box_after hbr HX.out)
      go_wp2_with fail
      refine (UintW 300 wr a c ys hys (by omega) (by omega) t.dep H.out.dep).mono ?_
      rintro e v1 ⟨z1, b1, d1, m1, rfl, g1, hc1⟩
      have hj1 := bnext hbr hc1
      clear x0 x1
      obtain ⟨x0, x1⟩ := box_cells (box_after hj1 HX.out)
      go_wp2_with fail
      refine (UintW 308 v1 b1 d1 z1 g1 (by omega) (by omega) t.wd H.out.wd).mono ?_
      rintro e v2 ⟨z2, b2, d2, m2, rfl, g2, hc2⟩
      have hj2 := bnext hj1 hc2
      clear x0 x1
      obtain ⟨x0, x1⟩ := box_cells (box_after hj2 HX.out)
      go_wp2_with fail
      refine (UintW 316 v2 b2 d2 z2 g2 (by omega) (by omega) t.fee H.out.fee).mono ?_
      rintro e v3 ⟨z3, b3, d3, m3, rfl, g3, hc3⟩
      have hj3 := bnext hj2 hc3
      clear x0 x1
      obtain ⟨x0, x1⟩ := box_cells (box_after hj3 HX.out)
      go_wp2_with fail
      refine (UintW 324 v3 b3 d3 z3 g3 (by omega) (by omega) t.acc H.out.acc).mono ?_
      rintro e v4 ⟨z4, b4, d4, m4, rfl, g4, hc4⟩
      have hj4 := bnext hj3 hc4
      clear x0 x1
      obtain ⟨x0, x1⟩ := box_cells (box_after hj4 HX.out)
      go_wp2_with fail
      refine (UintW 332 v4 b4 d4 z4 g4 (by omega) (by omega) t.nonce H.out.nonce).mono ?_
      rintro e v5 ⟨z5, b5, d5, m5, rfl, g5, hc5⟩
      have hj5 := bnext hj4 hc5
      clear x0 x1
      obtain ⟨x0, x1⟩ := box_cells (box_after hj5 HX.out)
      obtain ⟨ex, hex⟩ := Int.eq_ofNat_of_zero_le f4
      rw [hex] at x0
      go_wp2_with fail
      refine (IntW 340 v5 b5 d5 z5 g5 (by omega) (by omega) ex (by omega)).mono ?_
      rintro e v6 ⟨z6, b6, d6, m6, rfl, g6, hc6⟩
      have hj6 := bnext hj5 hc6
      go_wp2_with fail
      refine (BytesW 344 v6 b6 d6 z6 g6 (by omega) (by omega)).mono ?_
      rintro e v7 ⟨z7, b7, d7, m7, rfl, g7, hc7⟩
      go_wp2_with fail
      go_ret
      exact ⟨z7, b7, d7, by omega, rfl, g7, bnext HB.out (bnext hj6 hc7)⟩
set_option maxRecDepth 100000 in
set_option maxHeartbeats 1000000 in
theorem bind_any (S : Nat → Prop) (w : World) (t : TxM) (ma oa pa : Option Addr) (mc oc pc : Nat) (h : TxIn S w t ma oa pa mc oc pc) (hv : validE t = 0) :
    Calls Tryz.prog 28 #[.agg #[.int .u64 t.anchor, .slice ma t.marks.length mc, .slice oa t.outs.length oc, .int .u64 t.dep, .int .u64 t.wd, .int .u64 t.fee, .int .u64 t.acc, .int .u64 t.nonce, .int .i64 t.exp, .slice pa t.proof.length pc]] w (SomeH w) := by
  have hb0 := bnew (Below.refl w.heap.size w) (.cells #[.int .u64 t.anchor, .slice ma t.marks.length mc, .slice oa t.outs.length oc, .int .u64 t.dep, .int .u64 t.wd, .int .u64 t.fee, .int .u64 t.acc, .int .u64 t.nonce, .int .i64 t.exp, .slice pa t.proof.length pc] 36)
  have HX := Lib.hid (box_new w (.cells #[.int .u64 t.anchor, .slice ma t.marks.length mc, .slice oa t.outs.length oc, .int .u64 t.dep, .int .u64 t.wd, .int .u64 t.fee, .int .u64 t.acc, .int .u64 t.nonce, .int .i64 t.exp, .slice pa t.proof.length pc] 36))
  have H := Lib.hid (h.keepB hb0)
  have HB := Lib.hid hb0
  have HV := Lib.hid hv
  clear hb0 h hv
  go_enter Tryz.func28, Tryz.ntmps28
  go_wp2_with fail
  refine (txValid_any S _ t ma oa pa mc oc pc H.out).mono ?_
  rintro e w1 ⟨rfl, hb1⟩
  rw [HV.out]
  obtain ⟨x0, x1⟩ := box_cells (box_after hb1 HX.out)
  go_wp2_with fail
  refine (encode_any S w1 t ma oa pa mc oc pc (H.out.keepB hb1) HV.out).mono ?_
  rintro e w2 ⟨ys, a2, c2, hyl, rfl, hr, hb2⟩
  go_wp2_with fail
  refine (hashBytes_any _ w2 13 (by omega) a2 c2 ys hr (by omega)).mono ?_
  rintro e w3 ⟨x, rfl, q0, q1, hb3⟩
  go_wp2_with fail
  go_ret
  exact ⟨x, rfl, q0, q1, bnext (bnext (bnext HB.out hb1) hb2) hb3⟩
set_option maxRecDepth 100000 in
set_option maxHeartbeats 1000000 in
theorem txOrigin_any (S : Nat → Prop) (w : World) (t : TxM) (ma oa pa : Option Addr) (mc oc pc : Nat) (h : TxIn S w t ma oa pa mc oc pc) (hv : validE t = 0) :
    Calls Tryz.prog 29 #[.agg #[.int .u64 t.anchor, .slice ma t.marks.length mc, .slice oa t.outs.length oc, .int .u64 t.dep, .int .u64 t.wd, .int .u64 t.fee, .int .u64 t.acc, .int .u64 t.nonce, .int .i64 t.exp, .slice pa t.proof.length pc]] w fun e w' => e = .returned (.int .u64 (originS t.marks t.acc t.nonce)) ∧ Below w.heap.size w w' := by
  have hb0 := bnew (Below.refl w.heap.size w) (.cells #[.int .u64 t.anchor, .slice ma t.marks.length mc, .slice oa t.outs.length oc, .int .u64 t.dep, .int .u64 t.wd, .int .u64 t.fee, .int .u64 t.acc, .int .u64 t.nonce, .int .i64 t.exp, .slice pa t.proof.length pc] 36)
  have HX := Lib.hid (box_new w (.cells #[.int .u64 t.anchor, .slice ma t.marks.length mc, .slice oa t.outs.length oc, .int .u64 t.dep, .int .u64 t.wd, .int .u64 t.fee, .int .u64 t.acc, .int .u64 t.nonce, .int .i64 t.exp, .slice pa t.proof.length pc] 36))
  have H := Lib.hid (h.keepB hb0)
  have HB := Lib.hid hb0
  have HV := Lib.hid hv
  clear hb0 h hv
  go_enter Tryz.func29, Tryz.ntmps29
  go_wp2_with fail
  refine (txValid_any S _ t ma oa pa mc oc pc H.out).mono ?_
  rintro e w1 ⟨rfl, hb1⟩
  rw [HV.out]
  obtain ⟨x0, x1⟩ := box_cells (box_after hb1 HX.out)
  go_wp2_with fail
  refine (origin_any S w1 ma mc t.marks (numsR.keepB H.out.marks hb1) t.acc t.nonce H.out.acc H.out.nonce).mono ?_
  rintro e w2 ⟨rfl, hb2⟩
  go_wp2_with fail
  go_ret
  exact ⟨rfl, bnext (bnext HB.out hb1) hb2⟩
end Go.Proofs.YthggdacincfplaaGreatDoor
