/- The reference's packed bytes, digests of bytes, the binding of a transaction. -/
import Derived.Test.YtphacfkcifpobaaGreatDoorM08
import Derived.Test.YtphacfkcifpobaaGreatDoorTxT
import Derived.Test.YtphacfkcifpobaaGreatDoorM05
set_option maxRecDepth 100000
/- The program's bytes of a transaction, exact; its binding. -/
namespace Go.Proofs.YtphacfkcifpobaaGreatDoor
open Go.ChangeShapes Go.WideShapes Go.ChangeAt Go.RowKit
def SomeX (l : List Int) (N : Nat) (w : World) (e : Ending) (w' : World) : Prop := ∃ (ys : List Int) (a : Option Addr) (cap : Nat), Hid (ys = l) ∧ ys.length ≤ N ∧ e = .returned (.slice a ys.length cap) ∧ bytesR.rel (fun _ => True) w' [.slice a ys.length cap] ys ∧ Below w.heap.size w w'
theorem GivesS.someX {ys : List Int} {N : Nat} {w w' : World} {e : Ending} (h : GivesB ys w e w') (hl : ys.length ≤ N) : SomeX ys N w e w' := by
 obtain ⟨a, cap, h1, h2, h3⟩ := h
 exact ⟨ys, a, cap, rfl, hl, h1, h2, h3⟩
theorem UintX (N : Nat) (w : World) (a : Option Addr) (cap : Nat) (xs : List Int) (h : bytesR.rel (fun _ => True) w [.slice a xs.length cap] xs) (hx : xs.length ≤ N) (hN : N ≤ 100000) (n : Int) (hn : okU n) :
   Calls Tryz.prog 32 #[.slice a xs.length cap, .int .u64 n] w (SomeX (xs ++ digs 8 n) (N + 8) w) :=
 (Uint_any _ w a cap xs h n (okU_in hn).1 (okU_in hn).2 (by omega)).mono fun _ _ h => GivesS.someX h (by rw [List.length_append, digs_len]; omega)
theorem IntX (N : Nat) (w : World) (a : Option Addr) (cap : Nat) (xs : List Int) (h : bytesR.rel (fun _ => True) w [.slice a xs.length cap] xs) (hx : xs.length ≤ N) (hN : N ≤ 100000) (n : Nat) (hn : n ≤ 4294967295) :
   Calls Tryz.prog 29 #[.slice a xs.length cap, .int .i64 n] w (SomeX (xs ++ digs 4 n) (N + 4) w) :=
 (Int_any _ w a cap xs h n hn (by omega)).mono fun _ _ h => GivesS.someX h (by rw [List.length_append, digs_len]; omega)
theorem ListX (N M : Nat) (S' : Nat → Prop) (w : World) (a : Option Addr) (cap : Nat) (xs : List Int) (h : bytesR.rel (fun _ => True) w [.slice a xs.length cap] xs) (hx : xs.length ≤ N) (hN : N ≤ 100000) (la : Option Addr) (lc : Nat) (l : List Int) (hl : numsR.rel S' w [.slice la l.length lc] l) (hlm : l.length ≤ M) (hM : M ≤ 1000) :
   Calls Tryz.prog 30 #[.slice a xs.length cap, .slice la l.length lc] w (SomeX (xs ++ listS l) (N + 4 + 8 * M) w) :=
 (List_any _ S' w a cap xs h la lc l hl (by omega) (by omega)).mono fun _ _ h => by
   rw [List.append_assoc] at h
   exact GivesS.someX (ys := xs ++ listS l) h (by simp only [List.length_append, listS_len]; omega)
theorem BytesX (N : Nat) (S' : Nat → Prop) (w : World) (a : Option Addr) (cap : Nat) (xs : List Int) (h : bytesR.rel (fun _ => True) w [.slice a xs.length cap] xs) (hx : xs.length ≤ N) (hN : N ≤ 100000) (la : Option Addr) (lc : Nat) (l : List Int) (hl : bytesR.rel S' w [.slice la l.length lc] l) (hll : l.length ≤ 1048576) :
   Calls Tryz.prog 143 #[.slice a xs.length cap, .slice la l.length lc] w (SomeX (xs ++ (digs 4 l.length ++ l)) (N + 4 + l.length) w) :=
 (Bytes_any _ S' w a cap xs h la lc l hl (by omega) (by omega)).mono fun _ _ h => GivesS.someX h (by simp only [List.length_append, digs_len]; omega)
set_option maxHeartbeats 4000000 in
theorem encodeX_any (S : Nat → Prop) (w : World) (t : TxM) (ma oa pa : Option Addr) (mc oc pc : Nat) (h : TxIn S w t ma oa pa mc oc pc) (hv : validE t = 0) (qa : Option Addr) (qc : Nat) (proof : List Int) (S' : Nat → Prop) (hp : bytesR.rel S' w [.slice qa proof.length qc] proof) (hpl : proof.length ≤ 1048576) :
   Calls Tryz.prog 207 #[.agg #[.int .u64 t.anchor, .slice ma t.marks.length mc, .slice oa t.outs.length oc, .int .u64 t.dep, .int .u64 t.wd, .int .u64 t.fee, .int .u64 t.acc, .int .u64 t.nonce, .int .i64 t.exp, .slice pa t.proof.length pc], .slice qa proof.length qc] w (SomeX (encS t proof) (2000 + proof.length) w) := by
 obtain ⟨f1, f2, f3, f4, f5, f6⟩ := validE_facts hv; have hb0 := bnew (Below.refl w.heap.size w) (.cells #[.int .u64 t.anchor, .slice ma t.marks.length mc, .slice oa t.outs.length oc, .int .u64 t.dep, .int .u64 t.wd, .int .u64 t.fee, .int .u64 t.acc, .int .u64 t.nonce, .int .i64 t.exp, .slice pa t.proof.length pc] 181); have HX := Lib.hid (box_new w (.cells #[.int .u64 t.anchor, .slice ma t.marks.length mc, .slice oa t.outs.length oc, .int .u64 t.dep, .int .u64 t.wd, .int .u64 t.fee, .int .u64 t.acc, .int .u64 t.nonce, .int .i64 t.exp, .slice pa t.proof.length pc] 181)); have H := Lib.hid (h.keepB hb0); have HPR := Lib.hid (bytesR.keepB hp hb0); have HB := Lib.hid hb0; have HF3 := Lib.hid f3; clear hb0 h hv f3 hp
 go_enter Tryz.func207, Tryz.ntmps207
 go_wp2_with fail; generalize w.alloc (.cells #[.int .u64 t.anchor, .slice ma t.marks.length mc, .slice oa t.outs.length oc, .int .u64 t.dep, .int .u64 t.wd, .int .u64 t.fee, .int .u64 t.acc, .int .u64 t.nonce, .int .i64 t.exp, .slice pa t.proof.length pc] 181) = W at *
 refine (UintX 0 W none 0 [] sliceR.nil (Nat.le_refl _) (by omega) t.anchor H.out.anchor).mono ?_
 rintro e w1 ⟨y1, a1, c1, Ey1, l1, rfl, h1, hb1⟩; obtain ⟨x0, x1⟩ := box_cells (box_after hb1 HX.out); go_wp2_with fail
 refine (ListX 8 4 S w1 a1 c1 y1 h1 (by omega) (by omega) ma mc t.marks (numsR.keepB H.out.marks hb1) (by omega) (by omega)).mono ?_
 rintro e w2 ⟨y2, a2, c2, Ey2, l2, rfl, h2, hb2⟩; have hk2 := bnext hb1 hb2; clear x0 x1; obtain ⟨x0, x1⟩ := box_cells (box_after hk2 HX.out); go_wp2_with fail
 refine (IntX 44 w2 a2 c2 y2 h2 (by omega) (by omega) t.outs.length (by omega)).mono ?_
 rintro e w3 ⟨y3, a3, c3, Ey3, l3, rfl, h3, hb3⟩; have hk3 := bnext hk2 hb3; clear x0 x1; obtain ⟨x0, x1⟩ := box_cells (box_after hk3 HX.out); go_wp2_with fail
 go_loopw [5, 23] (fun vb vi wr => ∃ (k : Nat) (ys : List Int) (a : Option Addr) (c : Nat), k ≤ t.outs.length ∧ vi = .int .i64 k ∧ vb = .slice a ys.length c ∧ Hid (ys = y3 ++ outsS (t.outs.take k)) ∧ ys.length ≤ 48 + 52 * k ∧ bytesR.rel (fun _ => True) wr [.slice a ys.length c] ys ∧ Below W.heap.size W wr) (fun _ vi _ => t.outs.length - (intOf vi).toNat)
 case atStart => exact ⟨0, y3, a3, c3, Nat.zero_le _, rfl, rfl, by show _ = _; simp [outsS], by omega, h3, hk3⟩
 case round =>
   obtain ⟨k, ys, a, c, hk, rfl, rfl, hye, hyl, hys, hbr⟩ := hrel; clear x0 x1
   by_cases hlt : k < t.outs.length
   · obtain ⟨b, off, ca, cc, rfl, -, hbl, o1, o2, o3, hci, c0, c1', c2', c3'⟩ := outs_at (outsR.keepB H.out.outs hbr) k hlt
     have hc3 := Lib.hid (HF3.out t.outs[k] (List.getElem_mem hlt))
     have HT : Hid (outsS (t.outs.take (k + 1)) = outsS (t.outs.take k) ++ outS t.outs[k]) := by show _ = _; rw [List.take_succ_eq_append_getElem hlt, outsS_snoc]
     generalize t.outs[k] = o at *; have hbn := bnew (Below.refl wr.heap.size wr) (.cells #[.int .u64 o.commit, .int .u64 o.p0, .int .u64 o.p1, .slice ca o.cipher.length cc] 297); have hin := box_new wr (.cells #[.int .u64 o.commit, .int .u64 o.p0, .int .u64 o.p1, .slice ca o.cipher.length cc] 297); have HCI := Lib.hid (numsR.keepB hci hbn); have hbrn := bnext hbr hbn; have HIN := Lib.hid hin; have HYS := Lib.hid (bytesR.keepB hys hbn); clear hci hin hys; go_wp2_with fail; generalize wr.alloc (.cells #[.int .u64 o.commit, .int .u64 o.p0, .int .u64 o.p1, .slice ca o.cipher.length cc] 297) = wn at *; clear c0 c1' c2' c3'
     refine (UintX (48 + 52 * k) wn a c ys HYS.out hyl (by omega) o.commit o1).mono ?_
     rintro e w4 ⟨y4, a4, c4, Ey4, l4, rfl, h4, hb4⟩; obtain ⟨x0, x1⟩ := box_cells (box_after hb4 HIN.out); go_wp2_with fail
     refine (UintX (48 + 52 * k + 8) w4 a4 c4 y4 h4 l4 (by omega) o.p0 o2).mono ?_
     rintro e w5 ⟨y5, a5, c5, Ey5, l5, rfl, h5, hb5⟩; have hk5 := bnext hb4 hb5; clear x0 x1; obtain ⟨x0, x1⟩ := box_cells (box_after hk5 HIN.out); go_wp2_with fail
     refine (UintX (48 + 52 * k + 16) w5 a5 c5 y5 h5 (by omega) (by omega) o.p1 o3).mono ?_
     rintro e w6 ⟨y6, a6, c6, Ey6, l6, rfl, h6, hb6⟩; have hk6 := bnext hk5 hb6; clear x0 x1; obtain ⟨x0, x1⟩ := box_cells (box_after hk6 HIN.out); go_wp2_with fail
     refine (ListX (48 + 52 * k + 24) 3 S w6 a6 c6 y6 h6 (by omega) (by omega) ca cc o.cipher (numsR.keepB HCI.out hk6) (by have := hc3.out; omega) (by omega)).mono ?_
     rintro e w7 ⟨y7, a7, c7, Ey7, l7, rfl, h7, hb7⟩; go_wp2_with fail
     go_roundw
     case rel => exact ⟨k + 1, y7, a7, c7, by omega, by go_num, rfl, by show _ = _; rw [Ey7.out, Ey6.out, Ey5.out, Ey4.out, hye.out, HT.out]; simp [outS, digsAll, listS], by omega, h7, bnext hbrn (bnext hk6 hb7)⟩
     case measure => simp [intOf]; omega
   · obtain rfl : k = t.outs.length := by omega
     obtain ⟨x0, x1⟩ := box_cells (box_after hbr HX.out); go_wp2_with fail
     refine (UintX 300 wr a c ys hys (by omega) (by omega) t.dep H.out.dep).mono ?_
     rintro e v1 ⟨z1, b1, d1, Ez1, m1, rfl, g1, hc1⟩; have hj1 := bnext hbr hc1; clear x0 x1; obtain ⟨x0, x1⟩ := box_cells (box_after hj1 HX.out); go_wp2_with fail
     refine (UintX 308 v1 b1 d1 z1 g1 (by omega) (by omega) t.wd H.out.wd).mono ?_
     rintro e v2 ⟨z2, b2, d2, Ez2, m2, rfl, g2, hc2⟩; have hj2 := bnext hj1 hc2; clear x0 x1; obtain ⟨x0, x1⟩ := box_cells (box_after hj2 HX.out); go_wp2_with fail
     refine (UintX 316 v2 b2 d2 z2 g2 (by omega) (by omega) t.fee H.out.fee).mono ?_
     rintro e v3 ⟨z3, b3, d3, Ez3, m3, rfl, g3, hc3⟩; have hj3 := bnext hj2 hc3; clear x0 x1; obtain ⟨x0, x1⟩ := box_cells (box_after hj3 HX.out); go_wp2_with fail
     refine (UintX 324 v3 b3 d3 z3 g3 (by omega) (by omega) t.acc H.out.acc).mono ?_
     rintro e v4 ⟨z4, b4, d4, Ez4, m4, rfl, g4, hc4⟩; have hj4 := bnext hj3 hc4; clear x0 x1; obtain ⟨x0, x1⟩ := box_cells (box_after hj4 HX.out); go_wp2_with fail
     refine (UintX 332 v4 b4 d4 z4 g4 (by omega) (by omega) t.nonce H.out.nonce).mono ?_
     rintro e v5 ⟨z5, b5, d5, Ez5, m5, rfl, g5, hc5⟩; have hj5 := bnext hj4 hc5; clear x0 x1; obtain ⟨x0, x1⟩ := box_cells (box_after hj5 HX.out); obtain ⟨ex, hex⟩ := Int.eq_ofNat_of_zero_le f4; have HEX := Lib.hid hex; rw [hex] at x0; go_wp2_with fail
     refine (IntX 340 v5 b5 d5 z5 g5 (by omega) (by omega) ex (by omega)).mono ?_
     rintro e v6 ⟨z6, b6, d6, Ez6, m6, rfl, g6, hc6⟩; have hj6 := bnext hj5 hc6; go_wp2_with fail
     refine (BytesX 344 S' v6 b6 d6 z6 g6 (by omega) (by omega) qa qc proof (bytesR.keepB HPR.out hj6) hpl).mono ?_
     rintro e v7 ⟨z7, b7, d7, Ez7, m7, rfl, g7, hc7⟩; go_wp2_with fail; go_ret
     have HFIN : Hid (z7 = encS t proof) := by
       show _ = _
       have e9 : t.outs.take t.outs.length = t.outs := List.take_length; rw [Ez7.out, Ez6.out, Ez5.out, Ez4.out, Ez3.out, Ez2.out, Ez1.out, hye.out, e9, Ey3.out, Ey2.out, Ey1.out]; unfold encS; rw [HEX.out]
       simp [digsAll, listS]
     exact ⟨z7, b7, d7, HFIN, by omega, rfl, g7, bnext HB.out (bnext hj6 hc7)⟩
end Go.Proofs.YtphacfkcifpobaaGreatDoor
/- The program's binding and statement of a transaction, exact. -/
