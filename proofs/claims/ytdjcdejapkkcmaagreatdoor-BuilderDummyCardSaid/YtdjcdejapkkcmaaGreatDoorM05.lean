/- Transactions: clones, bytes, the digest of all but the proof, origins. -/
import Derived.Test.YtdjcdejapkkcmaaGreatDoorM03
import Derived.Test.YtdjcdejapkkcmaaGreatDoorM04
import Derived.Laws.Cover3
import Derived.Laws.Bits64b
namespace Go.Proofs.YtdjcdejapkkcmaaGreatDoor
open Go.ChangeShapes Go.WideShapes Go.ChangeAt Go.RowKit

theorem eql_nil (a : Option Addr) (l c : Nat) (w : World) : (binOp .eql 29 (.slice a l c) (.slice none 0 0)).run Tryz.prog w = .ok (.bool a.isNone) w := by
  simp only [binOp]
  simp [run_equal_slice_nil w 29 24 a l c Tryz.underlying29]
set_option maxRecDepth 100000 in
set_option maxHeartbeats 1000000 in
theorem clone_any (S : Nat → Prop) (w : World) (a : Option Addr) (cap : Nat) (l : List Int) (h : numsR.rel S w [.slice a l.length cap] l) (hl : l.length ≤ 1000000) :
    Calls Tryz.prog 32 #[.slice a l.length cap] w (GivesS u64R (fun k => w.heap.size ≤ k) l w) := by
  have hen := eql_nil
  cases a with
  | none =>
    have hl0 : l = [] := by
      cases l with
      | nil => rfl
      | cons x xs => obtain ⟨b, off, h1, -⟩ := nums_at h 0 (by simp); cases h1
    subst hl0
    go_enter Tryz.func32, Tryz.ntmps32
    go_wp2_with fail
    go_ret
    exact ⟨none, 0, rfl, sliceR.nil, Below.refl _ _⟩
  | some ad =>
    have hb0 := bnew (Below.refl w.heap.size w) (.cells #[] 24)
    have HO := Lib.hid (Own.empty u64R w.heap.size 24 (box_new w (.cells #[] 24)) (Nat.le_refl _))
    have HS := Lib.hid (Src.plain (S' := fun _ => False) (Plain.int .u64) (Src.of_slice (numsR.keepB h hb0)))
    have HB := Lib.hid hb0
    clear h hb0
    go_enter Tryz.func32, Tryz.ntmps32
    go_wp2_with (at_builtin; refine wpList_append_rel (r := u64R) (base := w.heap.size) rfl _ _ rfl Tryz.etyNums rfl rfl HO.out HS.out (fun _ _ h => h.elim) (fun _ _ h => h) (by unfold maxLen; simp; omega) (by simp; omega) (by rw [World.size_alloc]; omega) ?_)
    intro v3 w3 ho3 hk3 _
    have hb3 : Below w.heap.size w w3 := Kept.behind HB.out hk3 (by rw [World.size_alloc]; omega) fun k hk h => by have := (HO.out.lt h).2.2; omega
    have HG := Lib.hid (GivesS.mk (numsR.mono ho3.slice (S' := fun k => w.heap.size ≤ k) fun k _ h => by rcases h with h | h <;> omega) hb3)
    clear ho3
    go_wp2_with fail
    go_ret
    exact HG.out

/-- Some bytes were returned, in new memory. -/
def SomeB (N : Nat) (w : World) (e : Ending) (w' : World) : Prop := ∃ (ys : List Int) (a : Option Addr) (cap : Nat), ys.length ≤ N ∧ e = .returned (.slice a ys.length cap) ∧ bytesR.rel (fun _ => True) w' [.slice a ys.length cap] ys ∧ Below w.heap.size w w'
theorem GivesS.someB {ys : List Int} {N : Nat} {w w' : World} {e : Ending} (h : GivesB ys w e w') (hl : ys.length ≤ N) : SomeB N w e w' := by
  obtain ⟨a, cap, h1, h2, h3⟩ := h
  exact ⟨ys, a, cap, hl, h1, h2, h3⟩
theorem UintW (N : Nat) (w : World) (a : Option Addr) (cap : Nat) (xs : List Int) (h : bytesR.rel (fun _ => True) w [.slice a xs.length cap] xs) (hx : xs.length ≤ N) (hN : N ≤ 100000) (n : Int) (hn : okU n) :
    Calls Tryz.prog 74 #[.slice a xs.length cap, .int .u64 n] w (SomeB (N + 8) w) :=
  (Uint_any _ w a cap xs h n (okU_in hn).1 (okU_in hn).2 (by omega)).mono fun _ _ h => GivesS.someB h (by rw [List.length_append, digs_len]; omega)
theorem IntW (N : Nat) (w : World) (a : Option Addr) (cap : Nat) (xs : List Int) (h : bytesR.rel (fun _ => True) w [.slice a xs.length cap] xs) (hx : xs.length ≤ N) (hN : N ≤ 100000) (n : Nat) (hn : n ≤ 4294967295) :
    Calls Tryz.prog 81 #[.slice a xs.length cap, .int .i64 n] w (SomeB (N + 4) w) :=
  (Int_any _ w a cap xs h n hn (by omega)).mono fun _ _ h => GivesS.someB h (by rw [List.length_append, digs_len]; omega)
theorem ListW (N M : Nat) (S' : Nat → Prop) (w : World) (a : Option Addr) (cap : Nat) (xs : List Int) (h : bytesR.rel (fun _ => True) w [.slice a xs.length cap] xs) (hx : xs.length ≤ N) (hN : N ≤ 100000) (la : Option Addr) (lc : Nat) (l : List Int) (hl : numsR.rel S' w [.slice la l.length lc] l) (hM : l.length ≤ M) (hM2 : M ≤ 100) :
    Calls Tryz.prog 80 #[.slice a xs.length cap, .slice la l.length lc] w (SomeB (N + 4 + 8 * M) w) :=
  (List_any _ S' w a cap xs h la lc l hl (by omega) (by omega)).mono fun _ _ h => GivesS.someB h (by simp only [List.length_append, digs_len, digsAll_len]; omega)
theorem BytesW (N : Nat) (w : World) (a : Option Addr) (cap : Nat) (xs : List Int) (h : bytesR.rel (fun _ => True) w [.slice a xs.length cap] xs) (hx : xs.length ≤ N) (hN : N ≤ 100000) :
    Calls Tryz.prog 82 #[.slice a xs.length cap, .slice none 0 0] w (SomeB (N + 4) w) :=
  (Bytes_any _ (fun _ => True) w a cap xs h none 0 [] sliceR.nil (by omega) (by simp)).mono fun _ _ h => GivesS.someB h (by simp [digs_len]; omega)

theorem validE_facts {t : TxM} (h : validE t = 0) : t.marks.length ≤ 4 ∧ t.outs.length ≤ 4 ∧ (∀ o ∈ t.outs, o.cipher.length = 3) ∧ 0 ≤ t.exp ∧ t.exp ≤ 1048576 ∧ t.proof.length ≤ 1048576 := by
  unfold validE at h
  split at h
  · rename_i hc
    split at h
    · rename_i hp
      unfold marksB outsB restB at hc
      simp only [Bool.and_eq_true, decide_eq_true_eq] at hc
      obtain ⟨h1, h2, -, h3⟩ := hc
      refine ⟨h1.1, h2.1, fun o ho => ?_, h3.2.1, h3.2.2, hp⟩
      have := List.all_eq_true.1 h2.2 o ho
      unfold outB at this
      simp only [Bool.and_eq_true, decide_eq_true_eq] at this
      exact this.2.2.1
    · simp at h
  · simp at h

set_option maxRecDepth 100000 in
set_option maxHeartbeats 4000000 in
theorem encode_any (S : Nat → Prop) (w : World) (t : TxM) (ma oa pa : Option Addr) (mc oc pc : Nat) (h : TxIn S w t ma oa pa mc oc pc) (hv : validE t = 0) :
    Calls Tryz.prog 38 #[.agg #[.int .u64 t.anchor, .slice ma t.marks.length mc, .slice oa t.outs.length oc, .int .u64 t.dep, .int .u64 t.wd, .int .u64 t.fee, .int .u64 t.acc, .int .u64 t.nonce, .int .i64 t.exp, .slice pa t.proof.length pc], .slice none 0 0] w (SomeB 2000 w) := by
  obtain ⟨f1, f2, f3, f4, f5, f6⟩ := validE_facts hv
  have hb0 := bnew (Below.refl w.heap.size w) (.cells #[.int .u64 t.anchor, .slice ma t.marks.length mc, .slice oa t.outs.length oc, .int .u64 t.dep, .int .u64 t.wd, .int .u64 t.fee, .int .u64 t.acc, .int .u64 t.nonce, .int .i64 t.exp, .slice pa t.proof.length pc] 45)
  have HX := Lib.hid (box_new w (.cells #[.int .u64 t.anchor, .slice ma t.marks.length mc, .slice oa t.outs.length oc, .int .u64 t.dep, .int .u64 t.wd, .int .u64 t.fee, .int .u64 t.acc, .int .u64 t.nonce, .int .i64 t.exp, .slice pa t.proof.length pc] 45))
  have H := Lib.hid (h.keepB hb0)
  have HB := Lib.hid hb0
  have HF3 := Lib.hid f3
  clear hb0 h hv f3
  go_enter Tryz.func38, Tryz.ntmps38
  go_wp2_with fail
  generalize w.alloc (.cells #[.int .u64 t.anchor, .slice ma t.marks.length mc, .slice oa t.outs.length oc, .int .u64 t.dep, .int .u64 t.wd, .int .u64 t.fee, .int .u64 t.acc, .int .u64 t.nonce, .int .i64 t.exp, .slice pa t.proof.length pc] 45) = W at *
  refine (UintW 0 W none 0 [] sliceR.nil (Nat.le_refl _) (by omega) t.anchor H.out.anchor).mono ?_
  rintro e w1 ⟨y1, a1, c1, l1, rfl, h1, hb1⟩
  obtain ⟨x0, x1⟩ := box_cells (box_after hb1 HX.out)
  go_wp2_with fail
  refine (ListW 8 4 S w1 a1 c1 y1 h1 (by omega) (by omega) ma mc t.marks (numsR.keepB H.out.marks hb1) (by omega) (by omega)).mono ?_
  rintro e w2 ⟨y2, a2, c2, l2, rfl, h2, hb2⟩
  have hk2 := bnext hb1 hb2
  clear x0 x1
  obtain ⟨x0, x1⟩ := box_cells (box_after hk2 HX.out)
  go_wp2_with fail
  refine (IntW 44 w2 a2 c2 y2 h2 (by omega) (by omega) t.outs.length (by omega)).mono ?_
  rintro e w3 ⟨y3, a3, c3, l3, rfl, h3, hb3⟩
  have hk3 := bnext hk2 hb3
  clear x0 x1
  obtain ⟨x0, x1⟩ := box_cells (box_after hk3 HX.out)
  go_wp2_with fail
  go_loopw [5, 23] (fun vb vi wr => ∃ (k : Nat) (ys : List Int) (a : Option Addr) (c : Nat), k ≤ t.outs.length ∧ vi = .int .i64 k ∧ vb = .slice a ys.length c ∧ ys.length ≤ 48 + 52 * k ∧ bytesR.rel (fun _ => True) wr [.slice a ys.length c] ys ∧ Below W.heap.size W wr) (fun _ vi _ => t.outs.length - (intOf vi).toNat)
  case atStart => exact ⟨0, y3, a3, c3, Nat.zero_le _, rfl, rfl, by omega, h3, hk3⟩
  case round =>
    obtain ⟨k, ys, a, c, hk, rfl, rfl, hyl, hys, hbr⟩ := hrel
    clear x0 x1
    by_cases hlt : k < t.outs.length
    · obtain ⟨b, off, ca, cc, rfl, -, hbl, o1, o2, o3, hci, c0, c1', c2', c3'⟩ := outs_at (outsR.keepB H.out.outs hbr) k hlt
      have hc3 := Lib.hid (HF3.out t.outs[k] (List.getElem_mem hlt))
      generalize t.outs[k] = o at *
      have hbn := bnew (Below.refl wr.heap.size wr) (.cells #[.int .u64 o.commit, .int .u64 o.p0, .int .u64 o.p1, .slice ca o.cipher.length cc] 98)
      have hin := box_new wr (.cells #[.int .u64 o.commit, .int .u64 o.p0, .int .u64 o.p1, .slice ca o.cipher.length cc] 98)
      have HCI := Lib.hid (numsR.keepB hci hbn)
      have hbrn := bnext hbr hbn
      have HIN := Lib.hid hin
      have HYS := Lib.hid (bytesR.keepB hys hbn)
      clear hci hin hys
      go_wp2_with fail
      generalize wr.alloc (.cells #[.int .u64 o.commit, .int .u64 o.p0, .int .u64 o.p1, .slice ca o.cipher.length cc] 98) = wn at *
      clear c0 c1' c2' c3'
      refine (UintW (48 + 52 * k) wn a c ys HYS.out hyl (by omega) o.commit o1).mono ?_
      rintro e w4 ⟨y4, a4, c4, l4, rfl, h4, hb4⟩
      obtain ⟨x0, x1⟩ := box_cells (box_after hb4 HIN.out)
      go_wp2_with fail
      refine (UintW (48 + 52 * k + 8) w4 a4 c4 y4 h4 l4 (by omega) o.p0 o2).mono ?_
      rintro e w5 ⟨y5, a5, c5, l5, rfl, h5, hb5⟩
      have hk5 := bnext hb4 hb5
      clear x0 x1
      obtain ⟨x0, x1⟩ := box_cells (box_after hk5 HIN.out)
      go_wp2_with fail
      refine (UintW (48 + 52 * k + 16) w5 a5 c5 y5 h5 (by omega) (by omega) o.p1 o3).mono ?_
      rintro e w6 ⟨y6, a6, c6, l6, rfl, h6, hb6⟩
      have hk6 := bnext hk5 hb6
      clear x0 x1
      obtain ⟨x0, x1⟩ := box_cells (box_after hk6 HIN.out)
      go_wp2_with fail
      refine (ListW (48 + 52 * k + 24) 3 S w6 a6 c6 y6 h6 (by omega) (by omega) ca cc o.cipher (numsR.keepB HCI.out hk6) (by have := hc3.out; omega) (by omega)).mono ?_
      rintro e w7 ⟨y7, a7, c7, l7, rfl, h7, hb7⟩
      go_wp2_with fail
      go_roundw
      case rel => exact ⟨k + 1, y7, a7, c7, by omega, by go_num, rfl, by omega, h7, bnext hbrn (bnext hk6 hb7)⟩
      case measure => simp [intOf]; omega
    · obtain rfl : k = t.outs.length := by omega
      obtain ⟨x0, x1⟩ := box_cells (box_after hbr HX.out)
      go_wp2_with fail
      refine (UintW 300 wr a c ys hys (by omega) (by omega) t.dep H.out.dep).mono ?_
      rintro e v1 ⟨z1, b1, d1, m1, rfl, g1, hc1⟩
      have hj1 := bnext hbr hc1
      clear x0 x1
      obtain ⟨x0, x1⟩ := box_cells (box_after hj1 HX.out)
      go_wp2_with fail
      refine (UintW 308 v1 b1 d1 z1 g1 (by omega) (by omega) t.wd H.out.wd).mono ?_
      rintro e v2 ⟨z2, b2, d2, m2, rfl, g2, hc2⟩
      have hj2 := bnext hj1 hc2
      clear x0 x1
      obtain ⟨x0, x1⟩ := box_cells (box_after hj2 HX.out)
      go_wp2_with fail
      refine (UintW 316 v2 b2 d2 z2 g2 (by omega) (by omega) t.fee H.out.fee).mono ?_
      rintro e v3 ⟨z3, b3, d3, m3, rfl, g3, hc3⟩
      have hj3 := bnext hj2 hc3
      clear x0 x1
      obtain ⟨x0, x1⟩ := box_cells (box_after hj3 HX.out)
      go_wp2_with fail
      refine (UintW 324 v3 b3 d3 z3 g3 (by omega) (by omega) t.acc H.out.acc).mono ?_
      rintro e v4 ⟨z4, b4, d4, m4, rfl, g4, hc4⟩
      have hj4 := bnext hj3 hc4
      clear x0 x1
      obtain ⟨x0, x1⟩ := box_cells (box_after hj4 HX.out)
      go_wp2_with fail
      refine (UintW 332 v4 b4 d4 z4 g4 (by omega) (by omega) t.nonce H.out.nonce).mono ?_
      rintro e v5 ⟨z5, b5, d5, m5, rfl, g5, hc5⟩
      have hj5 := bnext hj4 hc5
      clear x0 x1
      obtain ⟨x0, x1⟩ := box_cells (box_after hj5 HX.out)
      obtain ⟨ex, hex⟩ := Int.eq_ofNat_of_zero_le f4
      rw [hex] at x0
      go_wp2_with fail
      refine (IntW 340 v5 b5 d5 z5 g5 (by omega) (by omega) ex (by omega)).mono ?_
      rintro e v6 ⟨z6, b6, d6, m6, rfl, g6, hc6⟩
      have hj6 := bnext hj5 hc6
      go_wp2_with fail
      refine (BytesW 344 v6 b6 d6 z6 g6 (by omega) (by omega)).mono ?_
      rintro e v7 ⟨z7, b7, d7, m7, rfl, g7, hc7⟩
      go_wp2_with fail
      go_ret
      exact ⟨z7, b7, d7, by omega, rfl, g7, bnext HB.out (bnext hj6 hc7)⟩
set_option maxRecDepth 100000 in
set_option maxHeartbeats 1000000 in
theorem bind_any (S : Nat → Prop) (w : World) (t : TxM) (ma oa pa : Option Addr) (mc oc pc : Nat) (h : TxIn S w t ma oa pa mc oc pc) (hv : validE t = 0) :
    Calls Tryz.prog 75 #[.agg #[.int .u64 t.anchor, .slice ma t.marks.length mc, .slice oa t.outs.length oc, .int .u64 t.dep, .int .u64 t.wd, .int .u64 t.fee, .int .u64 t.acc, .int .u64 t.nonce, .int .i64 t.exp, .slice pa t.proof.length pc]] w (SomeH w) := by
  have hb0 := bnew (Below.refl w.heap.size w) (.cells #[.int .u64 t.anchor, .slice ma t.marks.length mc, .slice oa t.outs.length oc, .int .u64 t.dep, .int .u64 t.wd, .int .u64 t.fee, .int .u64 t.acc, .int .u64 t.nonce, .int .i64 t.exp, .slice pa t.proof.length pc] 45)
  have HX := Lib.hid (box_new w (.cells #[.int .u64 t.anchor, .slice ma t.marks.length mc, .slice oa t.outs.length oc, .int .u64 t.dep, .int .u64 t.wd, .int .u64 t.fee, .int .u64 t.acc, .int .u64 t.nonce, .int .i64 t.exp, .slice pa t.proof.length pc] 45))
  have H := Lib.hid (h.keepB hb0)
  have HB := Lib.hid hb0
  have HV := Lib.hid hv
  clear hb0 h hv
  go_enter Tryz.func75, Tryz.ntmps75
  go_wp2_with fail
  refine (txValid_any S _ t ma oa pa mc oc pc H.out).mono ?_
  rintro e w1 ⟨rfl, hb1⟩
  rw [HV.out]
  obtain ⟨x0, x1⟩ := box_cells (box_after hb1 HX.out)
  go_wp2_with fail
  refine (encode_any S w1 t ma oa pa mc oc pc (H.out.keepB hb1) HV.out).mono ?_
  rintro e w2 ⟨ys, a2, c2, hyl, rfl, hr, hb2⟩
  go_wp2_with fail
  refine (hashBytes_any _ w2 13 (by omega) a2 c2 ys hr (by omega)).mono ?_
  rintro e w3 ⟨x, rfl, q0, q1, hb3⟩
  go_wp2_with fail
  go_ret
  exact ⟨x, rfl, q0, q1, bnext (bnext (bnext HB.out hb1) hb2) hb3⟩
set_option maxRecDepth 100000 in
set_option maxHeartbeats 1000000 in
theorem txOrigin_any (S : Nat → Prop) (w : World) (t : TxM) (ma oa pa : Option Addr) (mc oc pc : Nat) (h : TxIn S w t ma oa pa mc oc pc) (hv : validE t = 0) :
    Calls Tryz.prog 76 #[.agg #[.int .u64 t.anchor, .slice ma t.marks.length mc, .slice oa t.outs.length oc, .int .u64 t.dep, .int .u64 t.wd, .int .u64 t.fee, .int .u64 t.acc, .int .u64 t.nonce, .int .i64 t.exp, .slice pa t.proof.length pc]] w fun e w' => e = .returned (.int .u64 (originS t.marks t.acc t.nonce)) ∧ Below w.heap.size w w' := by
  have hb0 := bnew (Below.refl w.heap.size w) (.cells #[.int .u64 t.anchor, .slice ma t.marks.length mc, .slice oa t.outs.length oc, .int .u64 t.dep, .int .u64 t.wd, .int .u64 t.fee, .int .u64 t.acc, .int .u64 t.nonce, .int .i64 t.exp, .slice pa t.proof.length pc] 45)
  have HX := Lib.hid (box_new w (.cells #[.int .u64 t.anchor, .slice ma t.marks.length mc, .slice oa t.outs.length oc, .int .u64 t.dep, .int .u64 t.wd, .int .u64 t.fee, .int .u64 t.acc, .int .u64 t.nonce, .int .i64 t.exp, .slice pa t.proof.length pc] 45))
  have H := Lib.hid (h.keepB hb0)
  have HB := Lib.hid hb0
  have HV := Lib.hid hv
  clear hb0 h hv
  go_enter Tryz.func76, Tryz.ntmps76
  go_wp2_with fail
  refine (txValid_any S _ t ma oa pa mc oc pc H.out).mono ?_
  rintro e w1 ⟨rfl, hb1⟩
  rw [HV.out]
  obtain ⟨x0, x1⟩ := box_cells (box_after hb1 HX.out)
  go_wp2_with fail
  refine (origin_any S w1 ma mc t.marks (numsR.keepB H.out.marks hb1) t.acc t.nonce H.out.acc H.out.nonce).mono ?_
  rintro e w2 ⟨rfl, hb2⟩
  go_wp2_with fail
  go_ret
  exact ⟨rfl, bnext (bnext HB.out hb1) hb2⟩
end Go.Proofs.YtdjcdejapkkcmaaGreatDoor
/- The wire's reader. -/
namespace Go.Proofs.YtdjcdejapkkcmaaGreatDoor
open Go.ChangeShapes Go.WideShapes Go.ChangeAt Go.RowKit

structure RdM where
  bytes : List Int
  pos : Nat
  failed : Bool
/-- At block p: a reader. -/
def RdAt (p : Nat) (w : World) (r : RdM) : Prop :=
  ∃ a cap, w.heap[p]? = some (.cells #[.slice a r.bytes.length cap, .int .i64 r.pos, .bool r.failed] 346 (0, 0)) ∧ bytesR.rel (fun k => k < p) w [.slice a r.bytes.length cap] r.bytes ∧ r.pos ≤ r.bytes.length ∧ r.bytes.length ≤ 1000000
theorem RdAt.keep {p : Nat} {w w' : World} {r : RdM} (h : RdAt p w r) (hk : Below w.heap.size w w') : RdAt p w' r := by
  obtain ⟨a, cap, h1, h2, h3⟩ := h
  exact ⟨a, cap, box_after hk h1, bytesR.keepB h2 hk, h3⟩
theorem RdAt.kept {p : Nat} {w w' : World} {r : RdM} (h : RdAt p w r) (hk : Kept (fun k => k ≤ p) w w') : RdAt p w' r := by
  obtain ⟨a, cap, h1, h2, h3⟩ := h
  exact ⟨a, cap, box_kept hk h1 (Nat.le_refl _), bytesR.keep h2 (hk.mono fun k _ h => Nat.le_of_lt h), h3⟩
/-- The reader at p has been turned to r; nothing else has changed. -/
def RdTo (p : Nat) (w : World) (r : RdM) (w' : World) : Prop := RdAt p w' r ∧ Kept (fun k => k ≠ p) w w'
theorem kept_next {S : Nat → Prop} {a b c : World} (h : Kept S a b) (k : Kept S b c) : Kept S a c := h.trans k fun _ _ h => h
theorem RdTo.next {p : Nat} {w w1 w2 : World} {r r' : RdM} (h : RdTo p w r w1) (k : RdTo p w1 r' w2) : RdTo p w r' w2 := ⟨k.1, kept_next h.2 k.2⟩

set_option maxHeartbeats 400000 in
theorem newReader_any (S : Nat → Prop) (w : World) (a : Option Addr) (cap : Nat) (xs : List Int) (h : bytesR.rel S w [.slice a xs.length cap] xs) (hx : xs.length ≤ 1000000) :
    Calls Tryz.prog 143 #[.slice a xs.length cap] w fun e w' => ∃ p, e = .returned (.pointer (some ⟨p, 0, none⟩)) ∧ w.heap.size ≤ p ∧ RdAt p w' ⟨xs, 0, false⟩ ∧ Below w.heap.size w w' := by
  go_enter Tryz.func143, Tryz.ntmps143
  go_wp2_with fail
  refine (room_any S w a cap xs h 0 (by omega)).mono ?_
  rintro e w1 ⟨v, rfl, ho, hb⟩
  have hs := ho.slice
  obtain ⟨a1, c1, rfl, -⟩ := sliceR.form hs
  have HB := Lib.hid (bnew (Below.refl w1.heap.size w1) (.cells #[.slice a1 xs.length c1, .int .i64 0, .bool false] 346))
  have HX := Lib.hid (box_new w1 (.cells #[.slice a1 xs.length c1, .int .i64 0, .bool false] 346))
  have HS := Lib.hid (bytesR.bound hs)
  have HR := Lib.hid hb
  clear ho hs hb
  go_wp2_with fail
  go_ret
  refine ⟨w1.heap.size, by simp, HR.out.size, ⟨a1, c1, HX.out, ?_, Nat.zero_le _, hx⟩, bnext HR.out HB.out⟩
  exact bytesR.mono (bytesR.keepB HS.out HB.out) fun k _ hk => hk.2

def RdM.fail (r : RdM) : RdM := ⟨r.bytes, r.pos, true⟩
def RdM.to (r : RdM) (n : Nat) : RdM := ⟨r.bytes, r.pos + n, r.failed⟩
/-- May some bytes be read? -/
def RdM.bad (r : RdM) (size : Nat) : Bool := r.failed || decide (r.bytes.length < r.pos + size)
def RdM.num (r : RdM) (size : Nat) : Int := leN ((r.bytes.drop r.pos).take size)

theorem left_any (w : World) (p : Nat) (r : RdM) (h : RdAt p w r) : Calls Tryz.prog 226 #[.pointer (some ⟨p, 0, none⟩)] w fun e w' => e = .returned (.int .i64 (r.bytes.length - r.pos : Nat)) ∧ Below w.heap.size w w' := by
  obtain ⟨a, cap, h1, h2, h3, h4⟩ := h
  obtain ⟨c0, c1⟩ := box_cells h1
  clear h1 h2
  go_enter Tryz.func226, Tryz.ntmps226
  go_wp2_with fail
  go_quiet (fail)
  go_wp2_with fail
  go_ret
  exact ⟨ret_int (by omega), bdrewN (Below.refl _ _) _⟩
theorem RdM.num_step (r : RdM) (k : Nat) (h : r.pos + k < r.bytes.length) : r.num (k + 1) = r.num k + r.bytes[r.pos + k] * 256 ^ k := by
  unfold RdM.num
  have hk : k < (r.bytes.drop r.pos).length := by rw [List.length_drop]; omega
  rw [List.take_succ_eq_append_getElem hk, leN_snoc, List.length_take, Nat.min_eq_left (by omega), List.getElem_drop]
theorem RdM.num_in {r : RdM} (hb : ∀ d ∈ r.bytes, 0 ≤ d ∧ d < 256) (k : Nat) (h : r.pos + k ≤ r.bytes.length) : 0 ≤ r.num k ∧ r.num k < 256 ^ k := by
  have := leN_in ((r.bytes.drop r.pos).take k) fun d hd => hb d (List.mem_of_mem_drop (List.mem_of_mem_take hd))
  rwa [List.length_take, List.length_drop, Nat.min_eq_left (by omega)] at this

theorem RdAt.fail {p : Nat} {w : World} {r : RdM} (h : RdAt p w r) : RdTo p w r.fail (w.setCell ⟨p, 2, none⟩ (.bool true)) := by
  obtain ⟨a, cap, h1, h2, h3⟩ := h
  have hk : Kept (fun k => k ≠ p) w (w.setCell ⟨p, 2, none⟩ (.bool true)) := (Kept.refl _ _).setCell (fun _ h => h rfl) _
  exact ⟨⟨a, cap, box_set h1, bytesR.keep h2 (hk.mono fun k _ h => Nat.ne_of_lt h), h3⟩, hk⟩
theorem RdAt.to {p : Nat} {w : World} {r : RdM} (h : RdAt p w r) (n : Nat) (hn : r.pos + n ≤ r.bytes.length) : RdTo p w (r.to n) (w.setCell ⟨p, 1, none⟩ (.int .i64 (r.pos + n : Nat))) := by
  obtain ⟨a, cap, h1, h2, h3, h4⟩ := h
  have hk : Kept (fun k => k ≠ p) w (w.setCell ⟨p, 1, none⟩ (.int .i64 (r.pos + n : Nat))) := (Kept.refl _ _).setCell (fun _ h => h rfl) _
  exact ⟨⟨a, cap, box_set h1, bytesR.keep h2 (hk.mono fun k _ h => Nat.ne_of_lt h), hn, h4⟩, hk⟩
theorem RdTo.of {p : Nat} {w w1 w2 : World} {r : RdM} (hb : Below w.heap.size w w1) (h : RdTo p w1 r w2) : RdTo p w r w2 := ⟨h.1, kept_next (Kept.of_below hb) h.2⟩

theorem RdAt.drewN {p : Nat} {w : World} {r : RdM} (h : RdAt p w r) (d : Nat) : RdAt p (w.drewN d) r := h.keep (bdrewN (Below.refl _ _) d)
theorem or_step {m x : Int} (k : Nat) (hk : k < 8) (m0 : 0 ≤ m) (m1 : m < 256 ^ k) (x0 : 0 ≤ x) (x1 : x < 256) : bits BinOp.or IntKind.u64 m (IntKind.u64.wrap (x * 2 ^ (8 * k))) = m + x * 256 ^ k := by
  obtain ⟨M, rfl⟩ := Int.eq_ofNat_of_zero_le m0
  obtain ⟨X, rfl⟩ := Int.eq_ofNat_of_zero_le x0
  have e : (256 : Int) ^ k = ((2 ^ (8 * k) : Nat) : Int) := by
    rw [Nat.pow_mul, Int.natCast_pow]; rfl
  have e2 : (2 : Int) ^ (8 * k) = ((2 ^ (8 * k) : Nat) : Int) := by rw [Int.natCast_pow]; rfl
  rw [e] at m1 ⊢
  rw [e2]
  have hM : M < 2 ^ (8 * k) := Int.ofNat_lt.1 m1
  have hp : 2 ^ (8 * k) ≤ 2 ^ 56 := Nat.pow_le_pow_right (by omega) (by omega)
  have hX : X ≤ 255 := by omega
  have hb := Nat.mul_le_mul hp hX
  have h5 := Nat.two_pow_add_eq_or_of_lt hM X
  have e3 : (X : Int) * ((2 ^ (8 * k) : Nat) : Int) = ((2 ^ (8 * k) * X : Nat) : Int) := by rw [Int.natCast_mul, Int.mul_comm]
  rw [e3]
  generalize 2 ^ (8 * k) * X = Y at *
  have hY : Y < 18446744073709551616 := by omega
  have hM2 : M < 18446744073709551616 := by omega
  rw [IntKind.wrap_u64, Int.emod_eq_of_lt (by omega) (by omega), bits_or_u64_nat M Y hM2 hY, Nat.or_comm, ← h5]
  omega
def RdM.dig (r : RdM) (size : Nat) : Int × Bool × RdM := if r.bad size = true then (0, false, r.fail) else (r.num size, true, r.to size)
set_option maxRecDepth 100000 in
set_option maxHeartbeats 2000000 in
theorem digits_any (w : World) (p : Nat) (r : RdM) (h : RdAt p w r) (size : Nat) (hs : size ≤ 8) :
    Calls Tryz.prog 225 #[.pointer (some ⟨p, 0, none⟩), .int .i64 size] w fun e w' => e = .returned (.tuple #[.int .u64 (r.dig size).1, .bool (r.dig size).2.1]) ∧ RdTo p w (r.dig size).2.2 w' := by
  have H := Lib.hid h
  obtain ⟨a, cap, h1, h2, h3, h4⟩ := h
  obtain ⟨c0, c1⟩ := box_cells h1
  have HB := Lib.hid h2
  clear h1 h2
  cases hf : r.failed with
  | true =>
    have HD : Hid (r.dig size = (0, false, r.fail)) := by
      show _ = _; unfold RdM.dig RdM.bad; rw [hf]; rfl
    rw [hf] at c0
    have HR := Lib.hid H.out.fail
    go_enter Tryz.func225, Tryz.ntmps225
    go_wp2_with fail
    go_ret2
    rw [HD.out]
    exact ⟨rfl, HR.out⟩
  | false =>
    rw [hf] at c0
    go_enter Tryz.func225, Tryz.ntmps225
    go_wp2_with fail
    refine (left_any w p r H.out).mono ?_
    rintro e w1 ⟨rfl, hb1⟩
    have hr1 := H.out.keep hb1
    have HR1 := Lib.hid hr1
    obtain ⟨a1, cap1, q1, q2, q3, q4⟩ := hr1
    clear c0 c1
    obtain ⟨c0, c1⟩ := box_cells q1
    rw [hf] at c0
    have HB1 := Lib.hid q2
    clear q1 q2
    by_cases hlt : r.bytes.length - r.pos < size
    · have HD : Hid (r.dig size = (0, false, r.fail)) := by
        show _ = _; unfold RdM.dig RdM.bad; rw [hf, decide_eq_true (by omega)]; rfl
      have HR := Lib.hid (RdTo.of hb1 HR1.out.fail)
      go_wp2_with fail
      go_ret2
      rw [HD.out]
      exact ⟨rfl, HR.out⟩
    · have HD : Hid (r.dig size = (r.num size, true, r.to size)) := by
        show _ = _; unfold RdM.dig RdM.bad; rw [hf, decide_eq_false (by omega)]; rfl
      have hle : r.pos + size ≤ r.bytes.length := by omega
      have hby : ∀ d ∈ r.bytes, 0 ≤ d ∧ d < 256 := fun d hd => okB_in (ints_wf HB1.out d hd)
      have HBY := Lib.hid hby
      clear hby
      go_wp2_with fail
      go_loopw [6, 22] (fun vn vi wr => ∃ k : Nat, k ≤ size ∧ vi = .int .i64 k ∧ vn = .int .u64 (r.num k) ∧ ∃ d, wr = w1.drewN d) (fun _ vi _ => size - (intOf vi).toNat)
      case atStart => exact ⟨0, Nat.zero_le _, rfl, by simp [RdM.num, leN], 0, rfl⟩
      case round =>
        obtain ⟨k, hk, rfl, rfl, d, rfl⟩ := hrel
        by_cases hks : k < size
        · have hpk : r.pos + k < r.bytes.length := by omega
          obtain ⟨b, off, rfl, hbl, hbp, d0, d1, hc⟩ := bytes_at HB1.out (r.pos + k) hpk
          have hn := RdM.num_in HBY.out k (by omega)
          have HS := Lib.hid (r.num_step k hpk)
          generalize r.bytes[r.pos + k] = x at *
          generalize r.num k = m at *
          go_wp2_with fail
          go_quiet (fail)
          go_wp2_with fail
          go_roundw
          case rel =>
            refine ⟨k + 1, by omega, by go_num, ?_, ?_⟩
            · rw [HS.out]
              rw [or_step k (by omega) hn.1 hn.2 d0 d1]
            · exact ⟨d + nq, rfl⟩
          case measure => simp [intOf]; omega
        · obtain rfl : k = size := by omega
          have HR := Lib.hid (RdTo.of (bdrewN hb1 d) (RdAt.to (RdAt.drewN HR1.out d) k hle))
          go_wp2_with fail
          go_ret2
          rw [HD.out]
          exact ⟨rfl, HR.out⟩
theorem RdAt.okb {p : Nat} {w : World} {r : RdM} (h : RdAt p w r) : ∀ d ∈ r.bytes, 0 ≤ d ∧ d < 256 := by
  obtain ⟨a, cap, h1, h2, h3⟩ := h
  exact fun d hd => okB_in (ints_wf h2 d hd)
theorem RdAt.dig_in {p : Nat} {w : World} {r : RdM} (h : RdAt p w r) (size : Nat) : 0 ≤ (r.dig size).1 ∧ (r.dig size).1 < 256 ^ size := by
  unfold RdM.dig
  split
  · exact ⟨Int.le_refl _, Int.pow_pos (by omega)⟩
  · rename_i hb
    refine RdM.num_in h.okb size ?_
    unfold RdM.bad at hb
    simp at hb
    omega
def RdM.uint (r : RdM) (most : Int) : Int × RdM := if (r.dig 8).2.1 = false ∨ most < (r.dig 8).1 then (0, (r.dig 8).2.2.fail) else ((r.dig 8).1, (r.dig 8).2.2)
def RdM.int (r : RdM) (most : Int) : Int × RdM := if (r.dig 4).2.1 = false ∨ most < (r.dig 4).1 then (0, (r.dig 4).2.2.fail) else ((r.dig 4).1, (r.dig 4).2.2)
set_option maxRecDepth 100000 in
set_option maxHeartbeats 1000000 in
theorem rdUint_any (w : World) (p : Nat) (r : RdM) (h : RdAt p w r) (most : Int) (m0 : 0 ≤ most) :
    Calls Tryz.prog 146 #[.pointer (some ⟨p, 0, none⟩), .int .u64 most] w fun e w' => e = .returned (.int .u64 (r.uint most).1) ∧ RdTo p w (r.uint most).2 w' ∧ 0 ≤ (r.uint most).1 ∧ (r.uint most).1 ≤ most := by
  have hd := h.dig_in 8
  have HU : Hid (r.uint most = if (r.dig 8).2.1 = false ∨ most < (r.dig 8).1 then (0, (r.dig 8).2.2.fail) else ((r.dig 8).1, (r.dig 8).2.2)) := rfl
  go_enter Tryz.func146, Tryz.ntmps146
  go_wp2_with fail
  refine (digits_any w p r h 8 (by omega)).mono ?_
  rintro e w1 ⟨rfl, hr⟩
  generalize r.dig 8 = t at *
  obtain ⟨n, ok, r'⟩ := t
  simp only at hd hr HU ⊢
  have HR := Lib.hid hr
  have HF := Lib.hid (RdTo.next hr hr.1.fail)
  obtain ⟨a, cap, h1, -⟩ := hr.1
  obtain ⟨c0, c1⟩ := box_cells h1
  clear h1 hr h
  cases ok with
  | false =>
    have HV : Hid (r.uint most = (0, r'.fail)) := by show _ = _; rw [HU.out, if_pos (.inl rfl)]
    clear HU
    go_wp2_with fail
    go_ret
    rw [HV.out]
    exact ⟨rfl, HF.out, Int.le_refl _, m0⟩
  | true =>
    by_cases hlt : most < n
    · have HV : Hid (r.uint most = (0, r'.fail)) := by show _ = _; rw [HU.out, if_pos (.inr hlt)]
      clear HU
      go_wp2_with fail
      go_ret
      rw [HV.out]
      exact ⟨rfl, HF.out, Int.le_refl _, m0⟩
    · have HV : Hid (r.uint most = (n, r')) := by show _ = _; rw [HU.out, if_neg (fun h => h.elim (fun h => by cases h) hlt)]
      clear HU
      go_wp2_with fail
      go_ret
      rw [HV.out]
      exact ⟨rfl, HR.out, hd.1, by omega⟩
set_option maxRecDepth 100000 in
set_option maxHeartbeats 1000000 in
theorem rdInt_any (w : World) (p : Nat) (r : RdM) (h : RdAt p w r) (most : Int) (m0 : 0 ≤ most) (_m1 : most ≤ 4294967295) :
    Calls Tryz.prog 144 #[.pointer (some ⟨p, 0, none⟩), .int .i64 most] w fun e w' => e = .returned (.int .i64 (r.int most).1) ∧ RdTo p w (r.int most).2 w' ∧ 0 ≤ (r.int most).1 ∧ (r.int most).1 ≤ most := by
  have hd := h.dig_in 4
  have HU : Hid (r.int most = if (r.dig 4).2.1 = false ∨ most < (r.dig 4).1 then (0, (r.dig 4).2.2.fail) else ((r.dig 4).1, (r.dig 4).2.2)) := rfl
  go_enter Tryz.func144, Tryz.ntmps144
  go_wp2_with fail
  refine (digits_any w p r h 4 (by omega)).mono ?_
  rintro e w1 ⟨rfl, hr⟩
  generalize r.dig 4 = t at *
  obtain ⟨n, ok, r'⟩ := t
  simp only at hd hr HU ⊢
  have hd2 : n < 4294967296 := by simpa using hd.2
  have hd1 := hd.1
  clear hd
  have HR := Lib.hid hr
  have HF := Lib.hid (RdTo.next hr hr.1.fail)
  obtain ⟨a, cap, h1, -⟩ := hr.1
  obtain ⟨c0, c1⟩ := box_cells h1
  clear h1 hr h
  cases ok with
  | false =>
    have HV : Hid (r.int most = (0, r'.fail)) := by show _ = _; rw [HU.out, if_pos (.inl rfl)]
    clear HU
    go_wp2_with fail
    go_ret
    rw [HV.out]
    exact ⟨rfl, HF.out, Int.le_refl _, m0⟩
  | true =>
    by_cases hlt : most < n
    · have HV : Hid (r.int most = (0, r'.fail)) := by show _ = _; rw [HU.out, if_pos (.inr hlt)]
      clear HU
      go_wp2_with fail
      go_ret
      rw [HV.out]
      exact ⟨rfl, HF.out, Int.le_refl _, m0⟩
    · have HV : Hid (r.int most = (n, r')) := by show _ = _; rw [HU.out, if_neg (fun h => h.elim (fun h => by cases h) hlt)]
      clear HU
      go_wp2_with fail
      go_ret
      rw [HV.out]
      exact ⟨rfl, HR.out, hd1, by omega⟩
theorem nat_eq_dec (a b : Nat) : ((a : Int) == (b : Int)) = decide (a = b) := by
  rw [Bool.eq_iff_iff, beq_iff_eq, decide_eq_true_eq]; omega
def RdM.done (r : RdM) : Bool := !r.failed && decide (r.pos = r.bytes.length)
set_option maxRecDepth 100000 in
set_option maxHeartbeats 1000000 in
theorem done_any (w : World) (p : Nat) (r : RdM) (h : RdAt p w r) : Calls Tryz.prog 148 #[.pointer (some ⟨p, 0, none⟩)] w fun e w' => e = .returned (.bool r.done) ∧ Below w.heap.size w w' := by
  obtain ⟨a, cap, h1, h2, h3, h4⟩ := h
  obtain ⟨c0, c1⟩ := box_cells h1
  clear h1 h2
  cases hf : r.failed with
  | true =>
    rw [hf] at c0
    have HD : Hid (r.done = false) := by show _ = _; unfold RdM.done; rw [hf]; rfl
    go_enter Tryz.func148, Tryz.ntmps148
    go_wp2_with fail
    go_quiet (fail)
    go_wp2_with fail
    go_ret
    exact ⟨ret_bool HD.out.symm, bdrewN (Below.refl _ _) _⟩
  | false =>
    rw [hf] at c0
    have HD : Hid (r.done = decide (r.pos = r.bytes.length)) := by show _ = _; unfold RdM.done; rw [hf]; rfl
    go_enter Tryz.func148, Tryz.ntmps148
    go_wp2_with fail
    go_quiet (fail)
    go_wp2_with fail
    go_ret
    rw [HD.out]
    refine ⟨ret_bool (nat_eq_dec _ _), bdrewN (Below.refl _ _) _⟩
end Go.Proofs.YtdjcdejapkkcmaaGreatDoor
/- The reader's lists. -/
namespace Go.Proofs.YtdjcdejapkkcmaaGreatDoor
open Go.ChangeShapes Go.WideShapes Go.ChangeAt Go.RowKit

def RdM.many (p : Int) : Nat → RdM → List Int → List Int × RdM
  | 0, r, acc => (acc, r)
  | k + 1, r, acc => if p ≤ (r.dig 8).1 then ([], (r.dig 8).2.2.fail) else RdM.many p k (r.dig 8).2.2 (acc ++ [(r.dig 8).1])
def RdM.list (r : RdM) (most p : Int) : List Int × RdM :=
  if (r.int most).2.failed = true ∨ (((r.int most).2.bytes.length - (r.int most).2.pos : Nat) : Int) / 8 < (r.int most).1 then ([], (r.int most).2.fail) else RdM.many p (r.int most).1.toNat (r.int most).2 []
/-- The row of a list that is being read. -/
def rowS (acc : List Int) (k : Nat) : List Value := (acc ++ List.replicate k 0).map (Value.int .u64)
theorem rowS_set (acc : List Int) (k : Nat) (x : Int) : (rowS acc (k + 1)).toArray.setIfInBounds acc.length (.int .u64 x) = (rowS (acc ++ [x]) k).toArray := by
  apply Array.ext'
  simp [rowS, List.replicate_succ]
theorem rowS_zero (acc : List Int) : rowS acc 0 = acc.map (Value.int .u64) := by simp [rowS]
theorem madeRow (n : Nat) : madeCells #[Value.int .u64 0] n = (rowS [] n).toArray := by
  apply Array.ext'
  apply List.ext_getElem?
  intro j
  rcases Nat.lt_or_ge j n with h | h
  · have hm : j % 1 = 0 := Nat.mod_one j
    simp [madeCells, rowS, h, hm]
  · simp [madeCells, rowS, h]
/-- The call returned a list in new memory; the reader was turned. -/
def GaveList (p : Nat) (w : World) (x : List Int × RdM) (e : Ending) (w' : World) : Prop :=
  ∃ a cap, e = .returned (.slice a x.1.length cap) ∧ numsR.rel (fun k => w.heap.size ≤ k) w' [.slice a x.1.length cap] x.1 ∧ RdTo p w x.2 w'
theorem RdAt.lt {p : Nat} {w : World} {r : RdM} (h : RdAt p w r) : p < w.heap.size := by
  obtain ⟨a, cap, h1, -⟩ := h
  exact box_lt h1
set_option maxRecDepth 100000 in
set_option maxHeartbeats 3000000 in
theorem rdList_any (w : World) (p : Nat) (r : RdM) (h : RdAt p w r) (most pr : Int) (m0 : 0 ≤ most) (m1 : most ≤ 1000) :
    Calls Tryz.prog 147 #[.pointer (some ⟨p, 0, none⟩), .int .i64 most, .int .u64 pr] w (GaveList p w (r.list most pr)) := by
  have HLT := Lib.hid h.lt
  go_enter Tryz.func147, Tryz.ntmps147
  go_wp2_with fail
  refine (rdInt_any w p r h most m0 (by omega)).mono ?_
  rintro e w1 ⟨rfl, hr, n0, n1⟩
  have HU : Hid (r.list most pr = if (r.int most).2.failed = true ∨ (((r.int most).2.bytes.length - (r.int most).2.pos : Nat) : Int) / 8 < (r.int most).1 then ([], (r.int most).2.fail) else RdM.many pr (r.int most).1.toNat (r.int most).2 []) := rfl
  generalize r.int most = t at *
  obtain ⟨n, r1⟩ := t
  simp only at hr n0 n1 HU ⊢
  have HR := Lib.hid hr
  have HF := Lib.hid (RdTo.next hr hr.1.fail)
  obtain ⟨a, cap, h1, -, h3, h4⟩ := hr.1
  obtain ⟨c0, c1⟩ := box_cells h1
  clear h1 hr h
  cases hf : r1.failed with
  | true =>
    have HV : Hid (r.list most pr = ([], r1.fail)) := by show _ = _; rw [HU.out, if_pos (.inl hf)]
    rw [hf] at c0
    clear HU
    go_wp2_with fail
    go_ret
    rw [HV.out]
    exact ⟨none, 0, rfl, sliceR.nil, HF.out⟩
  | false =>
    rw [hf] at c0
    go_wp2_with fail
    refine (left_any w1 p r1 HR.out.1).mono ?_
    rintro e w2 ⟨rfl, hb2⟩
    have HR2 := Lib.hid (⟨HR.out.1.keep hb2, kept_next HR.out.2 (Kept.of_below hb2)⟩ : RdTo p w r1 w2)
    have HF2 := Lib.hid (RdTo.next HR2.out HR2.out.1.fail)
    clear c0 c1 HF
    obtain ⟨a2, cap2, q1, -, -, -⟩ := HR2.out.1
    obtain ⟨c0, c1⟩ := box_cells q1
    clear q1
    rw [hf] at c0
    by_cases hlt : ((r1.bytes.length - r1.pos : Nat) : Int) / 8 < n
    · have HV : Hid (r.list most pr = ([], r1.fail)) := by show _ = _; rw [HU.out, if_pos (.inr hlt)]
      clear HU
      go_wp2_with fail
      go_ret
      rw [HV.out]
      exact ⟨none, 0, rfl, sliceR.nil, HF2.out⟩
    · have HV : Hid (r.list most pr = RdM.many pr n.toNat r1 []) := by show _ = _; rw [HU.out, if_neg (fun h => h.elim (fun h => by rw [hf] at h; cases h) hlt)]
      clear HU
      obtain ⟨N, rfl⟩ := Int.eq_ofNat_of_zero_le n0
      rw [Int.toNat_natCast] at HV
      have hN : N ≤ 1000 := by omega
      go_wp2_with (at_make; refine wpList_make_cells rfl _ _ rfl Tryz.etyNums (z := .int .u64 0) (by kernel_rfl) (n := N) rfl rfl rfl rfl ?_ ?_ ?_)
      · omega
      · unfold maxLen; omega
      have hg3 := box_new w2 (.cells (rowS [] N).toArray 24)
      have hb3 := bnew (Below.refl w2.heap.size w2) (.cells (rowS [] N).toArray 24)
      rw [madeRow]
      have HG3 := Lib.hid hg3
      have HB3 := Lib.hid hb3
      generalize w2.alloc (.cells (rowS [] N).toArray 24) = w3 at *
      have hgs : w.heap.size ≤ w2.heap.size := HR2.out.2.size
      clear hg3 hb3 c0 c1
      have HR3 := Lib.hid (⟨HR2.out.1.keep HB3.out, kept_next HR2.out.2 (Kept.of_below HB3.out)⟩ : RdTo p w r1 w3)
      generalize hG : w2.heap.size = G at *
      have hpG : p < G := by have := HLT.out; omega
      go_loopw [31] (fun vi wr => ∃ (k : Nat) (rd : RdM) (acc : List Int), k ≤ N ∧ vi = .int .i64 k ∧ acc.length = k ∧ (∀ x ∈ acc, okU x) ∧ RdTo p w rd wr ∧ wr.heap[G]? = some (.cells (rowS acc (N - k)).toArray 24 (0, 0)) ∧ Hid (RdM.many pr (N - k) rd acc = RdM.many pr N r1 [])) (fun vi _ => N - (intOf vi).toNat)
      case atStart => exact ⟨0, r1, [], Nat.zero_le _, rfl, rfl, fun x h => by simp at h, HR3.out, HG3.out, rfl⟩
      case round =>
        obtain ⟨k, rd, acc, hk, rfl, hacc, hok, hrd, hrow, hinv⟩ := hrel
        by_cases hks : k < N
        · obtain ⟨j, hj⟩ : ∃ j, N - k = j + 1 := ⟨N - k - 1, by omega⟩
          have hj2 : N - (k + 1) = j := by omega
          rw [hj] at hrow hinv
          have HROW := Lib.hid hrow
          have HRD := Lib.hid hrd
          have hdi := hrd.1.dig_in 8
          have HU : Hid (RdM.many pr (j + 1) rd acc = if pr ≤ (rd.dig 8).1 then ([], (rd.dig 8).2.2.fail) else RdM.many pr j (rd.dig 8).2.2 (acc ++ [(rd.dig 8).1])) := rfl
          clear hrow
          go_wp2_with fail
          refine (digits_any _ p rd hrd.1 8 (by omega)).mono ?_
          rintro e w4 ⟨rfl, hr4⟩
          generalize rd.dig 8 = t at *
          obtain ⟨x, ok, r4⟩ := t
          simp only at hr4 hdi HU ⊢
          have hx1 : x < 18446744073709551616 := by simpa using hdi.2
          have hx0 := hdi.1
          clear hdi
          have hrow4 := box_kept hr4.2 HROW.out (show G ≠ p by omega)
          obtain ⟨d0, d1⟩ := box_cells hrow4
          have hlen4 : (rowS acc (j + 1)).length = N := by unfold rowS; simp; omega
          have HSET := Lib.hid (rowS_set acc j x)
          rw [hacc] at HSET
          have hnew := box_set (i := k) (v := .int .u64 x) hrow4
          rw [HSET.out] at hnew
          have HNEW := Lib.hid hnew
          have hck : w4.cell? ⟨G, k, none⟩ = some (.int .u64 0) := by rw [d0]; simp [rowS, hacc]
          have hgk := World.cell?_setCell_same w4 ⟨G, k, none⟩ (.int .u64 x) hck
          have R5 : Hid (RdTo p w r4 (w4.setCell ⟨G, k, none⟩ (.int .u64 x))) := by
            have hk5 : Kept (fun i => i ≤ p) w4 (w4.setCell ⟨G, k, none⟩ (.int .u64 x)) := (Kept.refl _ _).setCell (fun _ h => by have h' : G ≤ p := h; omega) _
            have hk6 : Kept (fun i => i ≠ p) w (w4.setCell ⟨G, k, none⟩ (.int .u64 x)) := (kept_next HRD.out.2 hr4.2).setCell (fun h => by have h' : G < w.heap.size := h; omega) _
            exact ⟨hr4.1.kept hk5, hk6⟩
          clear hnew hrow4 d0 hrd
          by_cases hpx : pr ≤ x
          · have HE : Hid (r.list most pr = ([], r4.fail)) := by show _ = _; rw [HV.out, ← hinv.out, HU.out, if_pos hpx]
            have HF5 := Lib.hid (RdTo.next R5.out R5.out.1.fail)
            obtain ⟨a5, cap5, q5, -, -, -⟩ := R5.out.1
            obtain ⟨e0, e1⟩ := box_cells q5
            clear q5
            go_wp2_with fail
            go_ret
            rw [HE.out]
            exact ⟨none, 0, rfl, sliceR.nil, HF5.out⟩
          · have HI : Hid (RdM.many pr j r4 (acc ++ [x]) = RdM.many pr N r1 []) := by show _ = _; rw [← hinv.out, HU.out, if_neg hpx]
            go_wp2_with fail
            go_roundw
            case rel => exact ⟨k + 1, r4, acc ++ [x], by omega, by go_num, by simp [hacc], fun y hy => by rcases List.mem_append.1 hy with h | h; exact hok y h; simp at h; subst h; exact okU_of hx0 hx1, R5.out, by rw [hj2]; exact HNEW.out, by rw [hj2]; exact HI⟩
            case measure => simp [intOf]; omega
        · obtain rfl : k = N := by omega
          rw [Nat.sub_self] at hrow hinv
          rw [rowS_zero] at hrow
          have HE : Hid (r.list most pr = (acc, rd)) := by show _ = _; rw [HV.out, ← hinv.out]; rfl
          have hown : Own (intR .u64) w.heap.size 24 (fun x => False ∨ w.heap.size ≤ x) wr (.slice (some ⟨G, 0, none⟩) acc.length acc.length) acc :=
            own_ints (cur := acc.map (Value.int .u64)) hrow (by rw [List.length_map]) (List.take_of_length_le (by rw [List.length_map]; exact Nat.le_refl _)) hok (Nat.le_refl _) (by unfold maxLen; omega) (by omega)
          have HS : Hid (numsR.rel (fun k => w.heap.size ≤ k) wr [.slice (some ⟨G, 0, none⟩) acc.length acc.length] acc) := numsR.mono hown.slice (fun i _ h => h.resolve_left id)
          clear hown hrow
          subst hacc
          go_wp2_with fail
          go_ret
          rw [HE.out]
          exact ⟨some ⟨G, 0, none⟩, acc.length, rfl, HS.out, hrd⟩
end Go.Proofs.YtdjcdejapkkcmaaGreatDoor
/- Reading notes and witnesses: the data, the state of Decode, readNote. -/
namespace Go.Proofs.YtdjcdejapkkcmaaGreatDoor
open Go.ChangeShapes Go.WideShapes Go.ChangeAt Go.RowKit

def RdM.n1 (r : RdM) : RdM := (r.uint 4294967295).2
def RdM.n2 (r : RdM) : RdM := (r.n1.uint 18446744069414584320).2
def RdM.n3 (r : RdM) : RdM := (r.n2.uint 18446744069414584320).2
def RdM.n4 (r : RdM) : RdM := (r.n3.uint 18446744069414584320).2
def RdM.note (r : RdM) : NoteM := ⟨(r.uint 4294967295).1, (r.n1.uint 18446744069414584320).1, (r.n2.uint 18446744069414584320).1, (r.n3.uint 18446744069414584320).1⟩
def RdM.s1 (r : RdM) : RdM := (r.n4.uint 18446744069414584320).2
def RdM.s2 (r : RdM) : RdM := (r.s1.int 3).2
def RdM.s3 (r : RdM) : RdM := (r.s2.int 4095).2
def RdM.s4 (r : RdM) : RdM := (r.s3.list 12 18446744069414584321).2
def RdM.s5 (r : RdM) : RdM := (r.s4.int 1).2
def RdM.spent (r : RdM) : SpentM := ⟨r.note, (r.n4.uint 18446744069414584320).1, (r.s1.int 3).1, (r.s2.int 4095).1, (r.s3.list 12 18446744069414584321).1, (r.s4.int 1).1 == 1⟩
def RdM.spents : Nat → RdM → List SpentM → List SpentM × RdM
  | 0, r, acc => (acc, r)
  | k + 1, r, acc => RdM.spents k r.s5 (acc ++ [r.spent])
def RdM.notes : Nat → RdM → List NoteM → List NoteM × RdM
  | 0, r, acc => (acc, r)
  | k + 1, r, acc => RdM.notes k r.n4 (acc ++ [r.note])

set_option maxRecDepth 100000 in
set_option maxHeartbeats 1000000 in
theorem readNote_any (w : World) (p : Nat) (r : RdM) (h : RdAt p w r) : Calls Tryz.prog 145 #[.pointer (some ⟨p, 0, none⟩)] w
    fun e w' => e = .returned (.agg #[.int .u64 r.note.value, .int .u64 r.note.owner, .int .u64 r.note.rho, .int .u64 r.note.blind]) ∧ RdTo p w r.n4 w' ∧ NoteOk r.note := by
  have hlt := h.lt
  have hb0 := bnew (Below.refl w.heap.size w) (.cells #[.int .u64 0, .int .u64 0, .int .u64 0, .int .u64 0] 56)
  have HX := Lib.hid (box_new w (.cells #[.int .u64 0, .int .u64 0, .int .u64 0, .int .u64 0] 56))
  have H0 := Lib.hid (h.keep hb0)
  have HB0 := Lib.hid hb0
  clear hb0 h
  go_enter Tryz.func145, Tryz.ntmps145
  go_wp2_with fail
  refine (rdUint_any _ p r H0.out 4294967295 (by omega)).mono ?_
  rintro e w1 ⟨rfl, h1, a0, a1⟩
  go_wp2_with fail
  refine (rdUint_any w1 p r.n1 h1.1 18446744069414584320 (by omega)).mono ?_
  rintro e w2 ⟨rfl, h2, b0, b1⟩
  go_wp2_with fail
  refine (rdUint_any w2 p r.n2 h2.1 18446744069414584320 (by omega)).mono ?_
  rintro e w3 ⟨rfl, h3, c0, c1⟩
  go_wp2_with fail
  refine (rdUint_any w3 p r.n3 h3.1 18446744069414584320 (by omega)).mono ?_
  rintro e w4 ⟨rfl, h4, d0, d1⟩
  have hk := kept_next (kept_next h1.2 h2.2) (kept_next h3.2 h4.2)
  have hx4 := box_kept hk HX.out (by omega)
  obtain ⟨x0, x1⟩ := box_cells hx4
  have HN : Hid (NoteOk r.note) := ⟨okU_of a0 (Int.lt_of_le_of_lt a1 (by omega)), okU_of b0 (Int.lt_of_le_of_lt b1 (by omega)), okU_of c0 (Int.lt_of_le_of_lt c1 (by omega)), okU_of d0 (Int.lt_of_le_of_lt d1 (by omega))⟩
  have HT : Hid (RdAt p w4 r.n4) := h4.1
  have HK : Hid (Kept (fun k => k ≠ p) w w4) := kept_next (Kept.of_below HB0.out) hk
  have e1 : r.note.value = (r.uint 4294967295).1 := rfl
  have e2 : r.note.owner = (r.n1.uint 18446744069414584320).1 := rfl
  have e3 : r.note.rho = (r.n2.uint 18446744069414584320).1 := rfl
  have e4 : r.note.blind = (r.n3.uint 18446744069414584320).1 := rfl
  rw [← e1, ← e2, ← e3, ← e4]
  clear e1 e2 e3 e4 a0 a1 b0 b1 c0 c1 d0 d1 h1 h2 h3 h4 hk
  obtain ⟨n, hn⟩ : ∃ n, r.note = n := ⟨_, rfl⟩
  have HNE := Lib.hid hn
  rw [hn] at HN ⊢
  clear hn
  have hf4 := box_set (i := 3) (v := .int .u64 n.blind) (box_set (i := 2) (v := .int .u64 n.rho) (box_set (i := 1) (v := .int .u64 n.owner) (box_set (i := 0) (v := .int .u64 n.value) hx4)))
  obtain ⟨z0, -⟩ := box_cells hf4
  have k0 := z0 0
  have k1 := z0 1
  have k2 := z0 2
  have k3 := z0 3
  simp at k0 k1 k2 k3
  clear z0 hf4 hx4
  go_wp2_with fail
  refine bodyPost_ret (v := .agg #[.int .u64 n.value, .int .u64 n.owner, .int .u64 n.rho, .int .u64 n.blind]) (by simp [results, Tryz.results145, go_sem, k0, k1, k2, k3]) rfl ⟨by rw [HNE.out], ⟨?_, ?_⟩, by rw [HNE.out]; exact HN.out⟩
  · exact HT.out.kept (((((Kept.refl _ _).setCell (fun _ h => by have h' : w.heap.size ≤ p := h; omega) _).setCell (fun _ h => by have h' : w.heap.size ≤ p := h; omega) _).setCell (fun _ h => by have h' : w.heap.size ≤ p := h; omega) _).setCell (fun _ h => by have h' : w.heap.size ≤ p := h; omega) _)
  · exact ((((HK.out.setCell (fun h => absurd h (Nat.lt_irrefl _)) _).setCell (fun h => absurd h (Nat.lt_irrefl _)) _).setCell (fun h => absurd h (Nat.lt_irrefl _)) _).setCell (fun h => absurd h (Nat.lt_irrefl _)) _)

/-- The state of Decode: the witness' variable at q, the reader at p, the result at the first block; rows from B on. -/
structure DecAt (w : World) (p q B : Nat) (v1 v2 : Value) (sec : Int) (rd : RdM) (wr : World) : Prop where
  below : Below w.heap.size w wr
  rd : RdAt p wr rd
  box : wr.heap[q]? = some (.cells #[v1, v2, .int .u64 sec] 48 (0, 0))
  res : wr.heap[w.heap.size]? = some (.cells #[.slice none 0 0, .slice none 0 0, .int .u64 0] 48 (0, 0))
  base : B ≤ wr.heap.size
/-- How the blocks lie. -/
structure DecLay (w : World) (p q B : Nat) : Prop where
  wp : w.heap.size < p
  wq : w.heap.size < q
  pB : p < B
  qB : q < B
  pq : p < q
theorem DecAt.kept {w wr w2 : World} {p q B : Nat} {v1 v2 : Value} {sec : Int} {rd : RdM} (L : DecLay w p q B) (h : DecAt w p q B v1 v2 sec rd wr) (hk : Kept (fun k => k < B) wr w2) : DecAt w p q B v1 v2 sec rd w2 :=
  have := L.wp; have := L.wq; have := L.pB; have := L.qB
  ⟨Kept.behind h.below (hk.mono (S' := fun k => k < B) fun _ _ h => h) h.below.size (fun k hk => by omega), h.rd.kept (hk.mono fun k _ h => by omega), box_kept hk h.box L.qB, box_kept hk h.res (by omega), Nat.le_trans h.base hk.size⟩
theorem DecAt.keepB {w wr w2 : World} {p q B : Nat} {v1 v2 : Value} {sec : Int} {rd : RdM} (L : DecLay w p q B) (h : DecAt w p q B v1 v2 sec rd wr) (hb : Below wr.heap.size wr w2) : DecAt w p q B v1 v2 sec rd w2 := h.kept L (Kept.of_below hb)
theorem DecAt.read {w wr w2 : World} {p q B : Nat} {v1 v2 : Value} {sec : Int} {rd rd' : RdM} (L : DecLay w p q B) (h : DecAt w p q B v1 v2 sec rd wr) (hr : RdTo p wr rd' w2) : DecAt w p q B v1 v2 sec rd' w2 :=
  have := L.wp; have := L.wq; have := L.pB; have := L.qB; have := L.pq
  ⟨Kept.behind h.below hr.2 h.below.size (fun k hk => by omega), hr.1, box_kept hr.2 h.box (by omega), box_kept hr.2 h.res (by omega), Nat.le_trans h.base hr.2.size⟩
theorem DecAt.store {w wr : World} {p q B : Nat} {v1 v2 u1 u2 : Value} {sec usec : Int} {rd : RdM} (L : DecLay w p q B) (h : DecAt w p q B v1 v2 sec rd wr) (i : Nat) (v : Value) (hv : (#[v1, v2, .int .u64 sec] : Array Value).setIfInBounds i v = #[u1, u2, .int .u64 usec]) : DecAt w p q B u1 u2 usec rd (wr.setCell ⟨q, i, none⟩ v) :=
  have := L.wp; have := L.wq; have := L.pB; have := L.qB; have := L.pq
  have hk : Kept (fun k => k ≤ p) wr (wr.setCell ⟨q, i, none⟩ v) := (Kept.refl _ _).setCell (fun _ h => by have h' : q ≤ p := h; omega) _
  ⟨h.below.setCell (by show w.heap.size ≤ q; omega) _, h.rd.kept hk, hv ▸ box_set h.box, box_set_far h.res (show w.heap.size ≠ q by omega), by rw [World.size_setCell]; exact h.base⟩
theorem DecAt.drew {w wr : World} {p q B : Nat} {v1 v2 : Value} {sec : Int} {rd : RdM} (L : DecLay w p q B) (h : DecAt w p q B v1 v2 sec rd wr) : DecAt w p q B v1 v2 sec rd wr.drew := h.keepB L (Below.refl _ _).drew
theorem Tryz.etySpent : ElemTy Tryz.prog 36 58 9 88 := ElemTy.of Tryz.underlying36 (z := .agg #[.int .u64 0, .int .u64 0, .int .u64 0, .int .u64 0, .int .u64 0, .int .i64 0, .int .i64 0, .slice none 0 0, .bool false]) (by kernel_rfl) rfl (by omega)
theorem Tryz.etyNote : ElemTy Tryz.prog 46 56 4 32 := ElemTy.of Tryz.underlying46 (z := .agg #[.int .u64 0, .int .u64 0, .int .u64 0, .int .u64 0]) (by kernel_rfl) rfl (by omega)
end Go.Proofs.YtdjcdejapkkcmaaGreatDoor
