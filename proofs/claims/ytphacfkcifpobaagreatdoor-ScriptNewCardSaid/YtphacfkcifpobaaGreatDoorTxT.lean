/- Transactions: Statement. -/
import Derived.Test.YtphacfkcifpobaaGreatDoorM08
set_option maxRecDepth 100000
namespace Go.Proofs.YtphacfkcifpobaaGreatDoor
open Go.ChangeShapes Go.WideShapes Go.ChangeAt Go.RowKit
theorem originS_ok {S : Nat → Prop} {w : World} {t : TxM} {ma oa pa : Option Addr} {mc oc pc : Nat} (h : TxIn S w t ma oa pa mc oc pc) : okU (originS t.marks t.acc t.nonce) := by
 unfold originS
 have h0 : okU 0 := okU_of (by omega) (by omega)
 split
 · split
   · exact hashS_ok _ _
   · exact h0
 · rename_i hl
   split
   · have hp : 0 < t.marks.length := by omega
     obtain ⟨b, off, -, -, n0, n1, -⟩ := nums_at h.marks 0 hp; rw [getD_at t.marks 0 0 hp]
     exact okU_of n0 n1
   · exact h0
theorem rhoS_ok (o : Int) (i : Nat) : okU (rhoS o i) := by
 unfold rhoS
 split
 · exact hashS_ok _ _
 · exact okU_of (by omega) (by omega)
theorem cells_box {w : World} {q : Nat} {old : List Value} {e : TypeId} (h : w.heap[q]? = some (.cells old.toArray e (0, 0))) (vs : List Value) (hl : vs.length = old.length) : (w.setCells q 0 vs).heap[q]? = some (.cells vs.toArray e (0, 0)) := by
 rw [setCells_setRow q e vs 0 w old.toArray h (by simp; omega)]
 have := setRow_heap w q old.toArray (old.toArray.toList.take 0 ++ vs ++ old.toArray.toList.drop (0 + vs.length)).toArray e (0, 0) h
 simpa [hl] using this
abbrev StK (A : Array Value) (b : Nat) (w1 w' : World) : Prop := Below w1.heap.size w1 w' ∧ (∀ o, w'.cell? ⟨b, o, none⟩ = A[o]?)
theorem StK.of {A : Array Value} {b : Nat} {w1 w' : World} (h : w1.heap[b]? = some (.cells A 181 (0, 0))) (hb : Below w1.heap.size w1 w') : StK A b w1 w' := ⟨hb, (box_cells (box_after hb h)).1⟩
theorem StK.drew {A : Array Value} {b : Nat} {w1 w' : World} (h : StK A b w1 w') : StK A b w1 w'.drew := ⟨h.1.drew, h.2⟩
theorem below_cells {B : Nat} {w w1 : World} (h : Below B w w1) {q : Nat} (hq : B ≤ q) (vs : List Value) (o : Nat) (hB : B ≤ w1.heap.size) : Below B w (w1.setCells q o vs) :=
 Kept.behind h (kept_cells w1 (q := q) (S := fun k => k < B) (by omega) vs o) hB fun _ h => h
set_option maxHeartbeats 8000000 in
theorem statement_in (w : World) (t : TxM) (ma oa pa : Option Addr) (mc oc pc : Nat) (h : TxIn (fun k => k < w.heap.size) w t ma oa pa mc oc pc) (hv : validE t = 0) (D : Nat) (_hD : D ≤ 12) :
   Calls Tryz.prog 218 #[.agg #[.int .u64 t.anchor, .slice ma t.marks.length mc, .slice oa t.outs.length oc, .int .u64 t.dep, .int .u64 t.wd, .int .u64 t.fee, .int .u64 t.acc, .int .u64 t.nonce, .int .i64 t.exp, .slice pa t.proof.length pc], .int .i64 D] w (StOut D t w) := by
 obtain ⟨f1, f2, f3, f4, f5, f6⟩ := validE_facts hv; have hb0 := bnew (Below.refl w.heap.size w) (.cells #[.int .u64 t.anchor, .slice ma t.marks.length mc, .slice oa t.outs.length oc, .int .u64 t.dep, .int .u64 t.wd, .int .u64 t.fee, .int .u64 t.acc, .int .u64 t.nonce, .int .i64 t.exp, .slice pa t.proof.length pc] 181); have hb1 := bnew hb0 (.cells #[.int .i64 0, .int .u64 0, .slice none 0 0, .slice none 0 0, .slice none 0 0, .int .u64 0, .int .u64 0, .int .u64 0, .int .u64 0, .int .u64 0] 329); have e1 : (w.alloc (.cells #[.int .u64 t.anchor, .slice ma t.marks.length mc, .slice oa t.outs.length oc, .int .u64 t.dep, .int .u64 t.wd, .int .u64 t.fee, .int .u64 t.acc, .int .u64 t.nonce, .int .i64 t.exp, .slice pa t.proof.length pc] 181)).heap.size = w.heap.size + 1 := World.size_alloc ..; have q2 := box_new (w.alloc (.cells #[.int .u64 t.anchor, .slice ma t.marks.length mc, .slice oa t.outs.length oc, .int .u64 t.dep, .int .u64 t.wd, .int .u64 t.fee, .int .u64 t.acc, .int .u64 t.nonce, .int .i64 t.exp, .slice pa t.proof.length pc] 181)) (.cells #[.int .i64 0, .int .u64 0, .slice none 0 0, .slice none 0 0, .slice none 0 0, .int .u64 0, .int .u64 0, .int .u64 0, .int .u64 0, .int .u64 0] 329); rw [e1] at q2
 have hst : StS #[.int .u64 t.anchor, .slice ma t.marks.length mc, .slice oa t.outs.length oc, .int .u64 t.dep, .int .u64 t.wd, .int .u64 t.fee, .int .u64 t.acc, .int .u64 t.nonce, .int .i64 t.exp, .slice pa t.proof.length pc] w ((w.alloc (.cells #[.int .u64 t.anchor, .slice ma t.marks.length mc, .slice oa t.outs.length oc, .int .u64 t.dep, .int .u64 t.wd, .int .u64 t.fee, .int .u64 t.acc, .int .u64 t.nonce, .int .i64 t.exp, .slice pa t.proof.length pc] 181)).alloc (.cells #[.int .i64 0, .int .u64 0, .slice none 0 0, .slice none 0 0, .slice none 0 0, .int .u64 0, .int .u64 0, .int .u64 0, .int .u64 0, .int .u64 0] 329)) := StS.of hb1 (box_old (box_new w (.cells #[.int .u64 t.anchor, .slice ma t.marks.length mc, .slice oa t.outs.length oc, .int .u64 t.dep, .int .u64 t.wd, .int .u64 t.fee, .int .u64 t.acc, .int .u64 t.nonce, .int .i64 t.exp, .slice pa t.proof.length pc] 181))) q2; have H := Lib.hid (h.keepB hb1); have HV := Lib.hid hv; have HST := Lib.hid hst; have hokA := okU_in h.anchor; clear hb0 hb1 e1 q2 h hv hst f3
 go_enter Tryz.func218, Tryz.ntmps218
 go_wp2_with fail; generalize (w.alloc (.cells #[.int .u64 t.anchor, .slice ma t.marks.length mc, .slice oa t.outs.length oc, .int .u64 t.dep, .int .u64 t.wd, .int .u64 t.fee, .int .u64 t.acc, .int .u64 t.nonce, .int .i64 t.exp, .slice pa t.proof.length pc] 181)).alloc (.cells #[.int .i64 0, .int .u64 0, .slice none 0 0, .slice none 0 0, .slice none 0 0, .int .u64 0, .int .u64 0, .int .u64 0, .int .u64 0, .int .u64 0] 329) = W at *
 refine (txValid_any _ W t ma oa pa mc oc pc H.out).mono ?_
 rintro e w1 ⟨rfl, hb1⟩; rw [HV.out]; have HS1 := Lib.hid (HST.out.next hb1); have H1 := Lib.hid (H.out.keepB hb1); clear HST H hb1; go_wp2_with fail
 go_cut [5] from 9 (fun v5 wc => ∃ q C am cm bd, v5 = .pointer (some ⟨q, 0, none⟩) ∧ 0 ≤ bd ∧ bd < 18446744069414584321 ∧ StAt D t #[.int .u64 t.anchor, .slice ma t.marks.length mc, .slice oa t.outs.length oc, .int .u64 t.dep, .int .u64 t.wd, .int .u64 t.fee, .int .u64 t.acc, .int .u64 t.nonce, .int .i64 t.exp, .slice pa t.proof.length pc] w q C am cm bd (.slice none 0 0) (.slice none 0 0) wc ∧ TxIn (fun k => k < w.heap.size) wc t ma oa pa mc oc pc)
 case first =>
   have hz1 := HS1.out.2.1
   go_region_held3 (fun w' => Below w1.heap.size w1 w' ∧ (∀ o, w'.cell? ⟨w.heap.size, o, none⟩ = (#[.int .u64 t.anchor, .slice ma t.marks.length mc, .slice oa t.outs.length oc, .int .u64 t.dep, .int .u64 t.wd, .int .u64 t.fee, .int .u64 t.acc, .int .u64 t.nonce, .int .i64 t.exp, .slice pa t.proof.length pc] : Array Value)[o]?))
     (first
       | with_reducible exact StK.drew (StK.of HS1.out.2.2.2.1 (Below.refl _ _))
       | with_reducible exact HMM.out
       | with_reducible exact HMA.out
       | with_reducible exact StK.of HS1.out.2.2.2.1 (bnew HMA.out.1 _)
       | with_reducible exact StK.of HS1.out.2.2.2.1 (bnew HMM.out.1 _)
       | with_reducible exact StK.drew (StK.of HS1.out.2.2.2.1 (bnew (Below.refl _ _) _))
       | exact StK.of HS1.out.2.2.2.1 (below_cells HMA.out.1 hqq [.int .i64 D, .int .u64 t.anchor, .slice a2 t.marks.length c2, .slice none 0 0, .slice none 0 0, .int .u64 t.dep, .int .u64 t.wd, .int .u64 t.fee, .int .u64 t.acc, .int .u64 bd] 0 HMA.out.1.size))
     (first
       | (go_at_call 167; have HBp := Lib.hid (‹Below w1.heap.size w1 _ ∧ _› : StK #[.int .u64 t.anchor, .slice ma t.marks.length mc, .slice oa t.outs.length oc, .int .u64 t.dep, .int .u64 t.wd, .int .u64 t.fee, .int .u64 t.acc, .int .u64 t.nonce, .int .i64 t.exp, .slice pa t.proof.length pc] w.heap.size w1 _); refine (clone_any _ _ ma mc t.marks (numsR.keepB H1.out.marks HBp.out.1) (by omega)).mono ?_; rintro e w2 ⟨a2, c2, rfl, hr2, hbM⟩
          have HMM := Lib.hid (StK.of HS1.out.2.2.2.1 (bnext HBp.out.1 hbM)); have HR2 := Lib.hid (numsR.bound hr2); clear hr2)
       | (go_at_call 287; have HBp := Lib.hid (‹Below w1.heap.size w1 _ ∧ _› : StK #[.int .u64 t.anchor, .slice ma t.marks.length mc, .slice oa t.outs.length oc, .int .u64 t.dep, .int .u64 t.wd, .int .u64 t.fee, .int .u64 t.acc, .int .u64 t.nonce, .int .i64 t.exp, .slice pa t.proof.length pc] w.heap.size w1 _); refine (bind_any _ _ t ma oa pa mc oc pc (H1.out.keepB HBp.out.1) HV.out).mono ?_; rintro e w3 ⟨bd, rfl, bd0, bd1, hbA⟩
          have HMA := Lib.hid (StK.of HS1.out.2.2.2.1 (bnext HBp.out.1 hbA))
          first
            | (have hqA : w3.heap[w1.heap.size]? = _ := box_after hbA (box_after hbM (box_new w1 (.cells #[.int .i64 0, .int .u64 0, .slice none 0 0, .slice none 0 0, .slice none 0 0, .int .u64 0, .int .u64 0, .int .u64 0, .int .u64 0, .int .u64 0] 329))); obtain ⟨k0, k1⟩ := box_cells hqA; have HQ := Lib.hid hqA; clear hqA; obtain ⟨qq, hqe⟩ : ∃ qq, qq = w1.heap.size := ⟨_, rfl⟩; have hqq : w1.heap.size ≤ qq := Nat.le_of_eq hqe.symm; subst hqe)
            | (have hqA : w3.heap[w2.heap.size]? = _ := box_after hbA (box_new w2 (.cells #[.int .i64 0, .int .u64 0, .slice none 0 0, .slice none 0 0, .slice none 0 0, .int .u64 0, .int .u64 0, .int .u64 0, .int .u64 0, .int .u64 0] 329)); obtain ⟨k0, k1⟩ := box_cells hqA; have HQ := Lib.hid hqA; clear hqA; have hqq : w1.heap.size ≤ w2.heap.size := HMM.out.1.size)
            | have hzA := HMA.out.1.size))
   · have hbF := bnew HMA.out.1 (.cells #[.int .i64 D, .int .u64 t.anchor, .slice a2 t.marks.length c2, .slice none 0 0, .slice none 0 0, .int .u64 t.dep, .int .u64 t.wd, .int .u64 t.fee, .int .u64 t.acc, .int .u64 bd] 329)
     have hmk : numsR.rel (fun k => (w.heap.size + 1 < k ∧ k ≠ w3.heap.size) ∧ k < w3.heap.size + 1) (w3.alloc (.cells #[.int .i64 D, .int .u64 t.anchor, .slice a2 t.marks.length c2, .slice none 0 0, .slice none 0 0, .int .u64 t.dep, .int .u64 t.wd, .int .u64 t.fee, .int .u64 t.acc, .int .u64 bd] 329)) [.slice a2 t.marks.length c2] t.marks :=
       numsR.mono (numsR.keepB (numsR.keepB HR2.out hbA) (bnew (Below.refl _ _) _)) fun k _ h => by have := hbA.size; have h2 : w1.heap.size ≤ k := h.1; have := h.2; omega
     have HF : Hid (StAt D t #[.int .u64 t.anchor, .slice ma t.marks.length mc, .slice oa t.outs.length oc, .int .u64 t.dep, .int .u64 t.wd, .int .u64 t.fee, .int .u64 t.acc, .int .u64 t.nonce, .int .i64 t.exp, .slice pa t.proof.length pc] w w3.heap.size (w3.heap.size + 1) a2 c2 bd (.slice none 0 0) (.slice none 0 0) (w3.alloc (.cells #[.int .i64 D, .int .u64 t.anchor, .slice a2 t.marks.length c2, .slice none 0 0, .slice none 0 0, .int .u64 t.dep, .int .u64 t.wd, .int .u64 t.fee, .int .u64 t.acc, .int .u64 bd] 329))) :=
       ⟨HS1.out.next hbF, box_new _ _, hmk, Nat.lt_of_lt_of_le hz1 hzA, Nat.lt_succ_self _, by rw [World.size_alloc]; exact Nat.le_refl _⟩
     have HTX := Lib.hid (H1.out.keepB hbF); clear hbF hmk; go_wp2_with fail
     go_meet
     case rel => exact ⟨w3.heap.size, w3.heap.size + 1, a2, c2, bd, rfl, bd0, bd1, HF.out, HTX.out⟩
   · have hqlt := box_lt HQ.out
     have hbF := below_cells HMA.out.1 (q := w2.heap.size) hqq [.int .i64 D, .int .u64 t.anchor, .slice a2 t.marks.length c2, .slice none 0 0, .slice none 0 0, .int .u64 t.dep, .int .u64 t.wd, .int .u64 t.fee, .int .u64 t.acc, .int .u64 bd] 0 HMA.out.1.size
     have hkF := kept_cells w3 (q := w2.heap.size) (S := fun k => k ≠ w2.heap.size) (fun h => h rfl) [.int .i64 D, .int .u64 t.anchor, .slice a2 t.marks.length c2, .slice none 0 0, .slice none 0 0, .int .u64 t.dep, .int .u64 t.wd, .int .u64 t.fee, .int .u64 t.acc, .int .u64 bd] 0
     have hmk : numsR.rel (fun k => (w.heap.size + 1 < k ∧ k ≠ w2.heap.size) ∧ k < w3.heap.size) w3 [.slice a2 t.marks.length c2] t.marks := numsR.mono (numsR.keepB (numsR.keepB HR2.out (bnew (Below.refl _ _) _)) hbA) fun k _ h => by have := hbA.size; rw [World.size_alloc] at this; have h2 : w1.heap.size ≤ k := h.1; have := h.2; omega
     have hF : StAt D t #[.int .u64 t.anchor, .slice ma t.marks.length mc, .slice oa t.outs.length oc, .int .u64 t.dep, .int .u64 t.wd, .int .u64 t.fee, .int .u64 t.acc, .int .u64 t.nonce, .int .i64 t.exp, .slice pa t.proof.length pc] w w2.heap.size w3.heap.size a2 c2 bd (.slice none 0 0) (.slice none 0 0) (w3.setCells w2.heap.size 0 [.int .i64 D, .int .u64 t.anchor, .slice a2 t.marks.length c2, .slice none 0 0, .slice none 0 0, .int .u64 t.dep, .int .u64 t.wd, .int .u64 t.fee, .int .u64 t.acc, .int .u64 bd]) :=
       ⟨HS1.out.next hbF, cells_box HQ.out _ rfl, numsR.keep hmk (hkF.mono fun k _ h => h.1.2), Nat.lt_of_lt_of_le hz1 hqq, hqlt, hkF.size⟩
     have hTX := H1.out.keepB hbF
     simp only [World.setCells, Nat.reduceAdd, Nat.zero_add] at hF hTX
     have HF := Lib.hid hF; have HTX := Lib.hid hTX; clear hbF hkF hmk hF hTX; go_wp2_with fail
     go_meet
     case rel => exact ⟨w2.heap.size, w3.heap.size, a2, c2, bd, rfl, bd0, bd1, HF.out, HTX.out⟩
   · have hqlt := box_lt HQ.out
     have hbF := below_cells HMA.out.1 (q := w1.heap.size) (Nat.le_refl _) [.int .i64 D, .int .u64 t.anchor, .slice a2 t.marks.length c2, .slice none 0 0, .slice none 0 0, .int .u64 t.dep, .int .u64 t.wd, .int .u64 t.fee, .int .u64 t.acc, .int .u64 bd] 0 HMA.out.1.size
     have hkF := kept_cells w3 (q := w1.heap.size) (S := fun k => k ≠ w1.heap.size) (fun h => h rfl) [.int .i64 D, .int .u64 t.anchor, .slice a2 t.marks.length c2, .slice none 0 0, .slice none 0 0, .int .u64 t.dep, .int .u64 t.wd, .int .u64 t.fee, .int .u64 t.acc, .int .u64 bd] 0
     have hmk : numsR.rel (fun k => (w.heap.size + 1 < k ∧ k ≠ w1.heap.size) ∧ k < w3.heap.size) w3 [.slice a2 t.marks.length c2] t.marks := numsR.mono (numsR.keepB HR2.out hbA) fun k _ h => by have h1 := hbA.size; have h2 : (w1.alloc (.cells #[.int .i64 0, .int .u64 0, .slice none 0 0, .slice none 0 0, .slice none 0 0, .int .u64 0, .int .u64 0, .int .u64 0, .int .u64 0, .int .u64 0] 329)).heap.size ≤ k := h.1; rw [World.size_alloc] at h2; have := h.2; omega
     have hF : StAt D t #[.int .u64 t.anchor, .slice ma t.marks.length mc, .slice oa t.outs.length oc, .int .u64 t.dep, .int .u64 t.wd, .int .u64 t.fee, .int .u64 t.acc, .int .u64 t.nonce, .int .i64 t.exp, .slice pa t.proof.length pc] w w1.heap.size w3.heap.size a2 c2 bd (.slice none 0 0) (.slice none 0 0) (w3.setCells w1.heap.size 0 [.int .i64 D, .int .u64 t.anchor, .slice a2 t.marks.length c2, .slice none 0 0, .slice none 0 0, .int .u64 t.dep, .int .u64 t.wd, .int .u64 t.fee, .int .u64 t.acc, .int .u64 bd]) :=
       ⟨HS1.out.next hbF, cells_box HQ.out _ rfl, numsR.keep hmk (hkF.mono fun k _ h => h.1.2), Nat.lt_of_lt_of_le hz1 (Nat.le_refl _), hqlt, hkF.size⟩
     have hTX := H1.out.keepB hbF
     simp only [World.setCells, Nat.reduceAdd, Nat.zero_add] at hF hTX
     have HF := Lib.hid hF; have HTX := Lib.hid hTX; clear hbF hkF hmk hF hTX; go_wp2_with fail
     go_meet
     case rel => exact ⟨w1.heap.size, w3.heap.size, a2, c2, bd, rfl, bd0, bd1, HF.out, HTX.out⟩
 case rest =>
   obtain ⟨q, C, am, cm, bd, rfl, bd0, bd1, hat, htx⟩ := hcut; have x0 := hat.sts.2.2.1; have HAT := Lib.hid hat; have HTX := Lib.hid htx; clear hat htx HS1 H1; go_wp2_with fail
   refine (txOrigin_any _ wc t ma oa pa mc oc pc HTX.out HV.out).mono ?_
   rintro e w4 ⟨rfl, hb4⟩; have HAT4 := Lib.hid (HAT.out.keepB hb4); have HTX4 := Lib.hid (HTX.out.keepB hb4); clear x0; have x0 := HAT4.out.sts.2.2.1; have HOK : Hid (okU (originS t.marks t.acc t.nonce)) := originS_ok HTX.out; obtain ⟨og, hog⟩ : ∃ og, originS t.marks t.acc t.nonce = og := ⟨_, rfl⟩; have HOG := Lib.hid hog; rw [hog] at HOK ⊢; clear hog HAT HTX hb4; go_wp2_with fail; clear x0
   go_loopw [35] (fun vi wr => ∃ (k : Nat) (v1 v2 : Value), k ≤ t.outs.length ∧ vi = .int .i64 k ∧ StAt D t #[.int .u64 t.anchor, .slice ma t.marks.length mc, .slice oa t.outs.length oc, .int .u64 t.dep, .int .u64 t.wd, .int .u64 t.fee, .int .u64 t.acc, .int .u64 t.nonce, .int .i64 t.exp, .slice pa t.proof.length pc] w q C am cm bd v1 v2 wr ∧ TxIn (fun k => k < w.heap.size) wr t ma oa pa mc oc pc ∧ Own u64R C 24 (fun x => v1.ownBlock = some x) wr v1 ((t.outs.map (·.commit)).take k) ∧ Own u64R C 24 (fun x => v2.ownBlock = some x) wr v2 (rhosTo og k) ∧ (∀ x, v1.ownBlock = some x → v2.ownBlock ≠ some x)) (fun vi _ => t.outs.length - (intOf vi).toNat)
   case atStart => exact ⟨0, .slice none 0 0, .slice none 0 0, Nat.zero_le _, rfl, HAT4.out, HTX4.out, by simpa using Own.nil _ _ _ _ _, Own.nil _ _ _ _ _, fun x h => by simp [Value.ownBlock] at h⟩
   case round =>
     obtain ⟨k, v1, v2, hk, rfl, hat, htx, ho1, ho2, hdis⟩ := hrel; clear HAT4 HTX4
     by_cases hlt : k < t.outs.length
     · obtain ⟨b, off, ca, cc, rfl, -, hbl, o1, o2, o3, hci, c0, c1, c2, c3⟩ := outs_at htx.outs k hlt
       have HT1 : Hid ((t.outs.map (·.commit)).take (k + 1) = (t.outs.map (·.commit)).take k ++ [t.outs[k].commit]) := by show _ = _; rw [List.take_succ_eq_append_getElem (by simpa using hlt)]; simp
       have hl1 : ((t.outs.map (·.commit)).take k).length ≤ 4 := by simp; omega
       have HL1 := Lib.hid hl1
       have HL2 : Hid ((rhosTo og k).length ≤ 4) := by show _ ≤ _; rw [rhosTo_len]; omega
       generalize (t.outs.map (·.commit)).take k = l1 at *; generalize t.outs[k] = o at *; clear hci hl1; have hbn := bnew (Below.refl wr.heap.size wr) (.cells #[.int .u64 o.commit, .int .u64 o.p0, .int .u64 o.p1, .slice ca o.cipher.length cc] 297); have HATn := Lib.hid (hat.keepB hbn); have HTXn := Lib.hid (htx.keepB hbn); have HO1 := Lib.hid (ho1.keepB hbn); have HO2 := Lib.hid (ho2.keepB hbn); have HIN := Lib.hid (box_new wr (.cells #[.int .u64 o.commit, .int .u64 o.p0, .int .u64 o.p1, .slice ca o.cipher.length cc] 297)); have HD := Lib.hid hdis; clear hat htx ho1 ho2 hdis hbn; obtain ⟨x0, x1⟩ := box_cells HATn.out.box; obtain ⟨y0, y1⟩ := box_cells HIN.out
       have hsrc : Src u64R (fun _ => False) ((wr.alloc (.cells #[.int .u64 o.commit, .int .u64 o.p0, .int .u64 o.p1, .slice ca o.cipher.length cc] 297)).alloc (.cells #[.int .u64 o.commit] 24)) (.slice (some ⟨(wr.alloc (.cells #[.int .u64 o.commit, .int .u64 o.p0, .int .u64 o.p1, .slice ca o.cipher.length cc] 297)).heap.size, 0, none⟩) 1 1) [o.commit] := Src.one (r := u64R) (y := o.commit) ⟨rfl, o1⟩ (CellsAt.new (wr.alloc (.cells #[.int .u64 o.commit, .int .u64 o.p0, .int .u64 o.p1, .slice ca o.cipher.length cc] 297)) [.int .u64 o.commit] 24)
       have e1 : (wr.alloc (.cells #[.int .u64 o.commit, .int .u64 o.p0, .int .u64 o.p1, .slice ca o.cipher.length cc] 297)).heap.size = wr.heap.size + 1 := World.size_alloc ..; rw [e1] at hsrc; have HSRC := Lib.hid hsrc; clear hsrc e1; have hCn : C ≤ ((wr.alloc (.cells #[.int .u64 o.commit, .int .u64 o.p0, .int .u64 o.p1, .slice ca o.cipher.length cc] 297)).alloc (.cells #[.int .u64 o.commit] 24)).heap.size := Nat.le_trans HATn.out.base (bnew (Below.refl _ _) (.cells #[.int .u64 o.commit] 24)).size
       go_wp2_with (at_builtin; go_loud (refine wpList_append_rel (r := u64R) (base := C) (v := v1) (u := .slice (some ⟨wr.heap.size + 1, 0, none⟩) 1 1) (ys := [o.commit]) (S := fun _ => False) rfl _ _ rfl Tryz.etyNums rfl rfl (Own.keepB HO1.out (bnew (Below.refl _ _) (.cells #[.int .u64 o.commit] 24))) HSRC.out (fun _ _ h => h.elim) (fun _ _ h => h) (by have := HL1.out; unfold maxLen; simp; omega) (by have := HL1.out; simp; omega) hCn ?_))
       intro v5 w5 ho5 hk5 hl5
       obtain ⟨a5, c5, rfl, -, -⟩ := sliceR.form ho5.slice
       have hkC : Kept (fun k => k < C) ((wr.alloc (.cells #[.int .u64 o.commit, .int .u64 o.p0, .int .u64 o.p1, .slice ca o.cipher.length cc] 297)).alloc (.cells #[.int .u64 o.commit] 24)) w5 := hk5.mono fun k _ hkC he => by have := (HO1.out.lt he).2.2; omega
       have AT5 := Lib.hid ((HATn.out.keepB (bnew (Below.refl _ _) (.cells #[.int .u64 o.commit] 24))).kept hkC)
       have TX5 := Lib.hid ((HTXn.out.keepB (bnew (Below.refl _ _) (.cells #[.int .u64 o.commit] 24))).keep (hkC.mono fun k _ h => by have h' : k < w.heap.size := h; have := HATn.out.lay; have := HATn.out.qC; omega))
       have O25 := Lib.hid ((HO2.out.keepB (bnew (Below.refl _ _) (.cells #[.int .u64 o.commit] 24))).keep (hk5.mono fun k _ h he => HD.out k he h))
       have HD5 : Hid (∀ x, (Value.slice a5 (l1 ++ [o.commit]).length c5).ownBlock = some x → v2.ownBlock ≠ some x) := fun x hx he => by
         rcases hl5 with h | h
         · rw [h] at hx; exact HD.out x hx he
         · rw [h] at hx
           have hx' := Option.some.inj hx; have h2 := (HO2.out.lt he).1; rw [World.size_alloc] at h2
           omega
       have O15 := Lib.hid (Own.tight ho5); have hqC := HATn.out.qC
       have hkq : Kept (fun k => k ≠ q) w5 (w5.setCell ⟨q, 3, none⟩ (.slice a5 (l1 ++ [o.commit]).length c5)) := (Kept.refl _ _).setCell (fun _ h => h rfl) _
       have AT6 := Lib.hid (AT5.out.store (u1 := .slice a5 (l1 ++ [o.commit]).length c5) (u2 := v2) 3 (.slice a5 (l1 ++ [o.commit]).length c5) rfl)
       have TX6 := Lib.hid (TX5.out.keep (hkq.mono fun k _ h => by have h' : k < w.heap.size := h; have := HATn.out.lay; omega))
       have O16 := Lib.hid (O15.out.keep (hkq.mono fun k _ h => by have := (O15.out.lt h).2.2; omega))
       have O26 := Lib.hid (O25.out.keep (hkq.mono fun k _ h => by have := (O25.out.lt h).2.2; omega))
       clear x0 x1 y0 y1 hk5 hkC hl5 ho5 hkq; obtain ⟨x0, x1⟩ := box_cells AT5.out.box; go_wp2_with fail; clear x0 x1; generalize hW6 : w5.setCell ⟨q, 3, none⟩ (.slice a5 (l1 ++ [o.commit]).length c5) = w6 at *
       have hll : (l1 ++ [o.commit]).length = l1.length + 1 := by simp
       rw [hll] at hW6; rw [hW6]; clear hW6; obtain ⟨x0, x1⟩ := box_cells AT6.out.box
       have O26d := Lib.hid (show Own u64R C 24 (fun x => v2.ownBlock = some x) w6.drew v2 (rhosTo og k) from O26.out.keepB (Below.refl _ _).drew)
       go_region_law (first
         | (refine step_append_rel (r := u64R) (base := C) (v := v2) (u := .slice (some ⟨w7.heap.size, 0, none⟩) 1 1) (S := fun _ => False) rfl _ _ rfl Tryz.etyNums rfl rfl (Own.keepB O27.out (bnew (Below.refl _ _) _)) (Src.one (r := u64R) (y := rhoS og k) ⟨rfl, hrk.out⟩ (CellsAt.new w7 [.int .u64 (rhoS og k)] 24)) (fun _ _ h => h.elim) (fun _ _ h => h) (by have := HL2.out; unfold maxLen; simp; omega) (by have := HL2.out; simp; omega) (Nat.le_trans AT7.out.base (by rw [World.size_alloc]; omega)) ?_
            intro v8 w8 ho8 hk8 hl8
            obtain ⟨a8, c8, rfl, -, -⟩ := sliceR.form ho8.slice
            have hkC : Kept (fun k => k < C) (w7.alloc (.cells #[.int .u64 (rhoS og k)] 24)) w8 := hk8.mono fun k _ hkC he => by have := (O27.out.lt he).2.2; omega
            have AT8 := Lib.hid ((AT7.out.keepB (bnew (Below.refl _ _) (.cells #[.int .u64 (rhoS og k)] 24))).kept hkC)
            have TX8 := Lib.hid ((TX7.out.keepB (bnew (Below.refl _ _) (.cells #[.int .u64 (rhoS og k)] 24))).keep (hkC.mono fun k _ h => by have h' : k < w.heap.size := h; have := AT7.out.lay; have := AT7.out.qC; omega))
            have O18 := Lib.hid ((O17.out.keepB (bnew (Below.refl _ _) (.cells #[.int .u64 (rhoS og k)] 24))).keep (hk8.mono fun k _ h he => HD5.out k h he))
            have O28 := Lib.hid (Own.tight ho8)
            have HD8 : Hid (∀ x, (Value.slice a5 (l1 ++ [o.commit]).length c5).ownBlock = some x → (Value.slice a8 (rhosTo og k ++ [rhoS og k]).length c8).ownBlock ≠ some x) := fun x hx he => by
              rcases hl8 with h | h
              · rw [h] at he; exact HD5.out x hx he
              · rw [h] at he
                have he' := Option.some.inj he; have h2 := (O17.out.lt hx).1; rw [World.size_alloc] at he'
                omega
            obtain ⟨t0, t1⟩ := box_cells AT8.out.box)
         | (go_simp; go_at_call 276; refine (rho_any _ og k HOK.out (by omega)).mono ?_; rintro e w7 ⟨rfl, hb7⟩
            have hb7' : Below w6.heap.size w6 w7 := bnext (Below.refl _ _).drew hb7
            have AT7 := Lib.hid (AT6.out.keepB hb7'); have TX7 := Lib.hid (TX6.out.keepB hb7'); have O17 := Lib.hid (O16.out.keepB hb7'); have O27 := Lib.hid (O26.out.keepB hb7')
            have hrk := Lib.hid (rhoS_ok og k)
            obtain ⟨y0, y1⟩ := box_cells AT7.out.box; have yy := fun o' => (box_cells (box_old (o' := o') AT7.out.box)).1))
       all_goals
         have hkq : Kept (fun k => k ≠ q) w8 (w8.setCell ⟨q, 4, none⟩ (.slice a8 (rhosTo og k ++ [rhoS og k]).length c8)) := (Kept.refl _ _).setCell (fun _ h => h rfl) _
         have AT9 := Lib.hid (AT8.out.store (u1 := .slice a5 (l1 ++ [o.commit]).length c5) (u2 := .slice a8 (rhosTo og k ++ [rhoS og k]).length c8) 4 (.slice a8 (rhosTo og k ++ [rhoS og k]).length c8) rfl)
         have TX9 := Lib.hid (TX8.out.keep (hkq.mono fun k _ h => by have h' : k < w.heap.size := h; have := AT7.out.lay; omega))
         have O19 := Lib.hid (O18.out.keep (hkq.mono fun k _ h => by have := (O18.out.lt h).2.2; omega))
         have O29 := Lib.hid (O28.out.keep (hkq.mono fun k _ h => by have := (O28.out.lt h).2.2; omega))
         clear hkq; go_wp2_with fail
         go_roundw
         case rel => exact ⟨k + 1, .slice a5 (l1 ++ [o.commit]).length c5, .slice a8 (rhosTo og k ++ [rhoS og k]).length c8, by omega, by go_num, by simpa using AT9.out, by simpa using TX9.out, by rw [HT1.out]; simpa using O19.out, by simpa [rhosTo] using O29.out, by simpa using HD8.out⟩
         case measure => simp [intOf]; omega
     · obtain rfl : k = t.outs.length := by omega
       have hlm : (t.outs.map (·.commit)).take t.outs.length = t.outs.map (·.commit) := List.take_of_length_le (by simp)
       rw [hlm] at ho1; obtain ⟨a1, c1, rfl, -, -⟩ := sliceR.form ho1.slice; obtain ⟨a2, c2, rfl, -, -⟩ := sliceR.form ho2.slice; have hl1 : (t.outs.map (·.commit)).length = t.outs.length := List.length_map ..; have hl2 : (rhosTo og t.outs.length).length = t.outs.length := rhosTo_len _ _; rw [hl1] at hat; rw [hl2] at hat
       have hs1 := numsR.mono ho1.slice (S' := fun k => C ≤ k) fun k _ h => (ho1.lt h).2.2
       have hs2 := numsR.mono ho2.slice (S' := fun k => C ≤ k) fun k _ h => (ho2.lt h).2.2
       have HAT := Lib.hid hat; have HS1 := Lib.hid hs1; have HS2 := Lib.hid hs2; obtain ⟨x0, x1⟩ := box_cells hat.box; obtain ⟨f0, f1'⟩ := box_cells hat.sts.2.2.2.2; have hR := (cells_box (old := [.int .i64 0, .int .u64 0, .slice none 0 0, .slice none 0 0, .slice none 0 0, .int .u64 0, .int .u64 0, .int .u64 0, .int .u64 0, .int .u64 0]) hat.sts.2.2.2.2 [.int .i64 D, .int .u64 t.anchor, .slice am t.marks.length cm, .slice a1 t.outs.length c1, .slice a2 t.outs.length c2, .int .u64 t.dep, .int .u64 t.wd, .int .u64 t.fee, .int .u64 t.acc, .int .u64 bd] rfl)
       have hK := (kept_cells wr (q := w.heap.size + 1) (S := fun k => k ≠ w.heap.size + 1) (fun h => h rfl) [.int .i64 D, .int .u64 t.anchor, .slice am t.marks.length cm, .slice a1 t.outs.length c1, .slice a2 t.outs.length c2, .int .u64 t.dep, .int .u64 t.wd, .int .u64 t.fee, .int .u64 t.acc, .int .u64 bd] 0)
       obtain ⟨wf, hwf⟩ : ∃ wf, wf = wr.setCells (w.heap.size + 1) 0 [.int .i64 D, .int .u64 t.anchor, .slice am t.marks.length cm, .slice a1 t.outs.length c1, .slice a2 t.outs.length c2, .int .u64 t.dep, .int .u64 t.wd, .int .u64 t.fee, .int .u64 t.acc, .int .u64 bd] := ⟨_, rfl⟩; rw [← hwf] at hR hK
       simp only [World.setCells, Nat.reduceAdd, Nat.zero_add] at hwf
       have HW := Lib.hid hwf; have HR := Lib.hid hR; have HK := Lib.hid hK; have HTX := Lib.hid htx; clear hat ho1 ho2 hs1 hs2 hdis hwf hR hK htx; go_wp2_with fail; rw [← HW.out]; obtain ⟨g0, -⟩ := box_cells HR.out
       refine bodyPost_ret (v := .agg #[.int .i64 D, .int .u64 t.anchor, .slice am t.marks.length cm, .slice a1 t.outs.length c1, .slice a2 t.outs.length c2, .int .u64 t.dep, .int .u64 t.wd, .int .u64 t.fee, .int .u64 t.acc, .int .u64 bd]) (by simp [results, Tryz.results218, go_sem, g0]) rfl ?_
       have hBC : w.heap.size + 1 < C := Nat.lt_trans HAT.out.lay HAT.out.qC
       refine ⟨bd, am, a1, a2, cm, c1, c2, bd0, bd1, rfl, ⟨HTX.out.anchor, HTX.out.dep, HTX.out.wd, HTX.out.fee, HTX.out.acc, okU_of bd0 (Int.lt_trans bd1 (by omega)), ?_, ?_, ?_⟩, ?_⟩
       · exact numsR.mono (numsR.keep HAT.out.marks (HK.out.mono fun k _ h => Nat.ne_of_gt h.1.1)) fun _ _ _ => trivial
       · exact numsR.mono (numsR.keep HS1.out (HK.out.mono fun k _ h => by have h' : C ≤ k := h; omega)) fun _ _ _ => trivial
       · have h2 := numsR.mono (numsR.keep HS2.out (HK.out.mono fun k _ h => by have h' : C ≤ k := h; omega)) (S' := fun _ => True) fun _ _ _ => trivial
         rw [← HOG.out] at h2
         exact h2
       · exact Kept.behind HAT.out.sts.1 HK.out HAT.out.sts.1.size fun k hk => by omega
theorem TxIn.bound {S : Nat → Prop} {w : World} {t : TxM} {ma oa pa : Option Addr} {mc oc pc : Nat} (h : TxIn S w t ma oa pa mc oc pc) : TxIn (fun k => k < w.heap.size) w t ma oa pa mc oc pc :=
 ⟨h.anchor, h.dep, h.wd, h.fee, h.acc, h.nonce, h.exp, numsR.mono (numsR.bound h.marks) fun _ _ h => h.2, outsR.mono (outsR.bound h.outs) fun _ _ h => h.2, bytesR.mono (bytesR.bound h.proof) fun _ _ h => h.2⟩
theorem statement_any (S : Nat → Prop) (w : World) (t : TxM) (ma oa pa : Option Addr) (mc oc pc : Nat) (h : TxIn S w t ma oa pa mc oc pc) (hv : validE t = 0) (D : Nat) (hD : D ≤ 12) :
   Calls Tryz.prog 218 #[.agg #[.int .u64 t.anchor, .slice ma t.marks.length mc, .slice oa t.outs.length oc, .int .u64 t.dep, .int .u64 t.wd, .int .u64 t.fee, .int .u64 t.acc, .int .u64 t.nonce, .int .i64 t.exp, .slice pa t.proof.length pc], .int .i64 D] w (StOut D t w) := statement_in w t ma oa pa mc oc pc h.bound hv D hD
end Go.Proofs.YtphacfkcifpobaaGreatDoor
