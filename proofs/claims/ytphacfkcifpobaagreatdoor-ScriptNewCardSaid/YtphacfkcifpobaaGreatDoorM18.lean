/- The state of a chain of the program: Apply. -/
import Derived.Test.YtphacfkcifpobaaGreatDoorM17
import Derived.Test.YtphacfkcifpobaaGreatDoorM08
set_option maxRecDepth 100000
namespace Go.Proofs.YtphacfkcifpobaaGreatDoor
open Go.ChangeShapes Go.WideShapes Go.ChangeAt Go.RowKit Go.Sort
def PoTo (p : Nat) (I : Nat → Prop) (v : PoV) (w : World) (r : RuM) (s' : PoM) (w' : World) : Prop :=
 ∃ (I' : Nat → Prop) (v' : PoV), PoAt p I' w' r s' v' ∧ Kept (fun k => ¬ PoMut p v k) w w' ∧ (∀ k, PoMut p v' k → PoMut p v k ∨ w.heap.size ≤ k) ∧ ∀ k, I' k → I k ∨ PoMut p v k ∨ w.heap.size ≤ k
theorem PoTo.of_below {p : Nat} {I : Nat → Prop} {v : PoV} {w w' : World} {r : RuM} {s : PoM} (h : PoAt p I w r s v) (hb : Below w.heap.size w w') : PoTo p I v w r s w' :=
 ⟨I, v, h.keepB hb, Kept.of_below hb, fun _ h => .inl h, fun _ h => .inl h⟩
theorem leaves_len {r : RuM} {s : PoM} {n : Nat} (h : PoOK r s n) : s.leaves.length ≤ 1000000 := by
 have h1 := h.count; have h2 := h.tree.c1
 obtain ⟨-, -, e3⟩ := pow12 ⟨r.depth.toNat, by have := h.tree.d1; omega⟩
 simp only at e3
 omega
theorem Tryz.etyBef : ElemTy Tryz.prog 156 300 7 104 := ElemTy.of Tryz.underlying156 (z := .agg #[.int .i64 0, .int .i64 0, .slice none 0 0, .int .i64 0, .slice none 0 0, .slice none 0 0, .int .u64 0]) (by kernel_rfl) rfl (by omega)
theorem PoAt.more {p : Nat} {I I2 : Nat → Prop} {w : World} {r : RuM} {s : PoM} {v : PoV} (h : PoAt p I w r s v) (h2 : ∀ k, I2 k → ¬ PoMut p v k ∧ k < w.heap.size) : PoAt p (fun k => I k ∨ I2 k) w r s v :=
 ⟨h.cell, h.data.mono fun _ => .inl, h.apart, fun k hm hi => hi.elim (h.free k hm) fun h' => (h2 k h').1 hm, fun k hi => hi.elim (h.lt k) fun h' => (h2 k h').2⟩
def apW (r : RuM) (s : PoM) (b : BlkM) : PoM := if applyE r s b = 0 then applyW r s b else s
theorem apW_ok {r : RuM} {s : PoM} {b : BlkM} (h : applyE r s b = 0) : apW r s b = applyW r s b := if_pos h
theorem apW_bad {r : RuM} {s : PoM} {b : BlkM} (h : applyE r s b ≠ 0) : apW r s b = s := if_neg h
set_option maxHeartbeats 4000000 in
theorem apply_any (p : Nat) (I : Nat → Prop) (w : World) (r : RuM) (hr : RuOK r) (s : PoM) (v : PoV) (h : PoAt p I w r s v) (N : Nat) (ok : PoOK r s N) (hN : N ≤ 80000) (hpl : s.past.length ≤ 10000) (S : Nat → Prop) (b : BlkM) (xa : Option Addr) (xc : Nat) (hb : BlkIn S w b xa xc) (hbl : b.txs.length ≤ 64) (hS : ∀ k, S k → ¬ PoMut p v k) :
   Calls Tryz.prog 134 #[.pointer (some ⟨p, 0, none⟩), .agg #[.int .u64 b.parent, .int .i64 b.height, .int .u64 b.miner, .int .u64 b.work, .int .u64 b.nonce, .slice xa b.txs.length xc]] w fun e w' => e = .returned (.int .i64 (applyE r s b)) ∧ PoTo p I v w r (apW r s b) w' := by
 have hbA := bnew (Below.refl w.heap.size w) (.cells #[.int .u64 b.parent, .int .i64 b.height, .int .u64 b.miner, .int .u64 b.work, .int .u64 b.nonce, .slice xa b.txs.length xc] 177); have HX := Lib.hid (box_new w (.cells #[.int .u64 b.parent, .int .i64 b.height, .int .u64 b.miner, .int .u64 b.work, .int .u64 b.nonce, .slice xa b.txs.length xc] 177)); have HP := Lib.hid (h.keepB hbA); have HP0 := Lib.hid h
 have HT : Hid (BlkIn (fun k => S k ∧ k < w.heap.size) (w.alloc (.cells #[.int .u64 b.parent, .int .i64 b.height, .int .u64 b.miner, .int .u64 b.work, .int .u64 b.nonce, .slice xa b.txs.length xc] 177)) b xa xc) := BlkIn.keepB ⟨hb.parent, hb.height, hb.miner, hb.work, hb.nonce, txsR.bound hb.txs⟩ hbA
 have HB := Lib.hid hbA; have HOK := Lib.hid ok; have HR := Lib.hid hr; have HS := Lib.hid hS; have HHE := Lib.hid (okI_in hb.height); have HU : Hid (applyE r s b = if b.height = s.past.length + 1 then (if b.miner < 18446744069414584321 then blockE r s b else 1) else 18) := rfl; have HUP := Lib.hid h.data.marks.set.up; clear hbA h hb ok hS hr
 go_enter Tryz.func134, Tryz.ntmps134
 go_upto_region 1 with (fail)
 generalize w.alloc (.cells #[.int .u64 b.parent, .int .i64 b.height, .int .u64 b.miner, .int .u64 b.work, .int .u64 b.nonce, .slice xa b.txs.length xc] 177) = W at *; have x0 := box_regrown HX.out; have y0 := box_regrown HP.out.cell
 simp only [poCells] at y0
 have e1 : wrap64 ((s.past.length : Int) + 1) = (s.past.length : Int) + 1 := by unfold wrap64; omega
 by_cases hh : b.height = s.past.length + 1
 · have HU1 := Lib.hid (HU.out.trans (if_pos hh))
   have z1 : (b.height == (s.past.length : Int) + 1) = true := by rw [beq_iff_eq]; exact hh
   have z2 : (b.height != (s.past.length : Int) + 1) = false := by rw [bne_eq_false_iff_eq]; exact hh
   clear hh HU; go_wp2_with fail
   refine wp_region_quiet_below (by kernel_rfl) (by kernel_rfl) ?_
   repeat (first | go_big_quiet_step (fail) | quiet_step (fail))
   refine wpQuiet_nil ?_
   intro w1 hw'
   obtain ⟨⟨dq, osq⟩, hw''⟩ := hw'; have hbw1 := below_regrown W dq osq; rw [← hw''] at hbw1; clear hw'' x0 y0; have HB1 := Lib.hid (bnext HB.out hbw1); have HW1 := Lib.hid hbw1; clear hbw1; have HX1 := Lib.hid (box_after HW1.out HX.out); obtain ⟨x0, x1⟩ := box_cells HX1.out
   by_cases hm : b.miner < 18446744069414584321
   · have HU2 := Lib.hid (HU1.out.trans (if_pos hm))
     have z3 : decide (18446744069414584321 ≤ b.miner) = false := decide_eq_false (by omega)
     have HP1 := Lib.hid (HP.out.keepB HW1.out); obtain ⟨y0, y1⟩ := box_cells HP1.out.cell
     simp only [poCells] at y0
     clear hm HU1
     go_upto_region 7 with (fail)
     go_cut [5] from 7 (fun v5 wc => ∃ q, v5 = .pointer (some ⟨q, 0, none⟩) ∧ w1.heap.size ≤ q ∧ Hid (wc.heap[q]? = some (.cells (befCells s [] v.ta none v.ba v.tc 0 v.bc) 300 (0, 0))) ∧ Hid (Below w1.heap.size w1 wc))
     case first =>
       have yy := fun o' => (box_cells (box_old (o' := o') HP1.out.cell)).1
       have xx := fun o' => (box_cells (box_old (o' := o') HX1.out)).1
       simp only [poCells] at yy
       go_region
       have hbd : Below w1.heap.size w1 (w1.alloc (.cells (befCells s [] v.ta none v.ba v.tc 0 v.bc) 300)).drew := (bnew (Below.refl _ _) _).drew; have HBD := Lib.hid hbd; have HBQ : Hid ((w1.alloc (.cells (befCells s [] v.ta none v.ba v.tc 0 v.bc) 300)).drew.heap[w1.heap.size]? = some (.cells (befCells s [] v.ta none v.ba v.tc 0 v.bc) 300 (0, 0))) := box_new w1 _; clear hbd; go_wp2_with fail
       go_meet
       case rel => exact ⟨w1.heap.size, rfl, Nat.le_refl _, HBQ, HBD⟩
     case rest =>
       obtain ⟨q, rfl, hq, HQ, HWc⟩ := hcut; have HXc := Lib.hid (box_after HWc.out HX1.out); have HTc := Lib.hid ((HT.out.keepB HW1.out).keepB HWc.out); have HPc := Lib.hid (HP1.out.keepB HWc.out)
       have HPW : Hid (PoW p q I wc r s s [] v v.ta none v.ba v.tc 0 v.bc) :=
         ⟨HPc.out, HQ.out, HPc.out.data.tree, HPc.out.data.book, HPc.out.data.hidden, Own.nil _ _ _ _ _, fun hm => by have := HP1.out.mut_lt q hm; omega, fun hi => by have := HP1.out.lt q hi; omega, fun k e => by simp at e, fun k e => by simp at e⟩
       have HSS : Hid (∀ k, (S k ∧ k < w.heap.size) → ¬ PoMut p v k ∧ k ≠ q ∧ blkO none ≠ some k) := fun k hk => ⟨HS.out k hk.1, by have := HB1.out.size; omega, by simp⟩
       obtain ⟨x0, x1⟩ := box_cells HXc.out; clear y0 y1; go_wp2_with fail
       refine (poBlock_any p q I wc r HR.out s v v.ta none v.ba v.tc 0 v.bc HPW.out N HOK.out hN (by omega) _ b xa xc HTc.out hbl HSS.out).mono ?_
       rintro e w3 ⟨rfl, s', m', hpart, hok', hml', hgood, I3, v3, a3, c3, hw3, hs3⟩; have HP3 := Lib.hid hw3; have HS3 := Lib.hid hs3; have HPT := Lib.hid hpart; clear hw3 hs3 hpart x0 x1
       by_cases he : blockE r s b = 0
       · obtain ⟨rfl, rfl⟩ := hgood he
         have HE : Hid (applyE r s b = 0) := HU2.out.trans he; rw [he]
         have HTF : Hid (okI s.tree.depth ∧ okI s.tree.count ∧ okI (s.leaves.length : Int)) := by
           have h1 := HOK.out.tree
           obtain ⟨-, -, e3⟩ := pow12 ⟨r.depth.toNat, by have := h1.d1; omega⟩
           simp only at e3
           have h2 := h1.c0; have h3 := h1.c1; have h4 := h1.depth; have h5 := h1.d1; have h6 := HOK.out.count
           exact ⟨okI_of (by omega) (by omega), okI_of (by omega) (by omega), okI_of (by omega) (by omega)⟩
         clear he hgood HU2; have HOKB := Lib.hid hok'
         have HAW : Hid (applyW r s b = ⟨(blockW r s b).tree, (blockW r s b).leaves, (blockW r s b).marks, (blockW r s b).book, (blockW r s b).hidden, (blockW r s b).roots ++ [rootF (blockW r s b).tree r.depth.toNat], (blockW r s b).past ++ [befM s b]⟩) := by
           show _ = _
           rw [HPT.out.roots, HPT.out.past]; rfl
         have HL1 : Hid ((blockW r s b).past.length ≤ 10000 ∧ (blockW r s b).roots.length ≤ 10001) := by
           have h1 := HOK.out.roots
           show _ ∧ _
           rw [HPT.out.roots, HPT.out.past]
           exact ⟨by omega, by omega⟩
         have hp4 := HP3.out.at'.more (I2 := fun k => blkO a3 = some k) (fun k e => ⟨HP3.out.m1 k e, by obtain ⟨cur, hc⟩ := own_obj HP3.out.own e; exact box_lt hc⟩)
         have hrel : befR.rel (fun k => I3 k ∨ blkO a3 = some k) w3 (befCells s (marksL b.txs) v.ta a3 v.ba v.tc c3 v.bc).toList (befM s b) :=
           befR.mk (b := befM s b) ⟨HTF.out.1, HTF.out.2.1, numsR.mono HP3.out.tree fun _ _ h => .inl h, HTF.out.2.2, numsR.mono HP3.out.own.slice fun _ _ h => .inr h, (accsR).mono HP3.out.book fun _ _ h => .inl h, HP3.out.hidden⟩
         generalize blockW r s b = sB at *; have hbd : Below w3.heap.size w3 w3.drew := (Below.refl _ _).drew; have HP4 := Lib.hid hp4; have HPd := Lib.hid (hp4.keepB hbd); have HLd := Lib.hid HPd.out.data.past; have HQd := Lib.hid (box_after hbd HP3.out.bef)
         have HSRC : Hid (Src befR (fun k => I3 k ∨ blkO a3 = some k) (w3.drew.alloc (.cells (befCells s (marksL b.txs) v.ta a3 v.ba v.tc c3 v.bc) 300)) (.slice (some ⟨w3.drew.heap.size, 0, none⟩) 1 1) [befM s b]) :=
           Src.one (befR.keepB hrel (bnew hbd _)) (CellsAt.new w3.drew (befCells s (marksL b.txs) v.ta a3 v.ba v.tc c3 v.bc).toList 300)
         have HA1 : Hid (Below w3.heap.size w3 (w3.drew.alloc (.cells (befCells s (marksL b.txs) v.ta a3 v.ba v.tc c3 v.bc) 300))) := bnew hbd _; obtain ⟨y0, y1⟩ := box_cells HPd.out.cell
         have yy := fun o' => (box_cells (box_old (o' := o') HP4.out.cell)).1
         have xx := fun o' => (box_cells (box_old (o' := o') HP3.out.bef)).1
         obtain ⟨x0, x1⟩ := box_cells HQd.out
         simp only [poCells] at y0 yy
         clear hbd hp4 hrel HT HTc HPW HP1 HPc HQ HP
         go_upto_region 12 with (fail)
         go_cut [4] from 5 (fun v4 wc => ∃ (I' : Nat → Prop) (v' : PoV), Hid (PoAt p I' wc r ⟨sB.tree, sB.leaves, sB.marks, sB.book, sB.hidden, sB.roots, sB.past ++ [befM s b]⟩ v') ∧ Hid (Kept (fun k => ¬ PoMut p v3 k) w3 wc) ∧ Hid (∀ k, PoMut p v' k → PoMut p v3 k ∨ w3.heap.size ≤ k) ∧ Hid (∀ k, I' k → I3 k ∨ blkO a3 = some k ∨ PoMut p v3 k ∨ w3.heap.size ≤ k))
         case first =>
           go_region_law (first
             | (refine step_append_rel (r := befR) (base := 0) (v := .slice v3.pa sB.past.length v3.pc) (u := .slice (some ⟨w3.drew.heap.size, 0, none⟩) 1 1) (S := fun k => I3 k ∨ blkO a3 = some k) rfl _ _ rfl Tryz.etyBef rfl rfl (Own.keepB HLd.out (bnew (Below.refl _ _) (.cells (befCells s (marksL b.txs) v.ta a3 v.ba v.tc c3 v.bc) 300))) HSRC.out (fun _ _ hk => .inl hk) (fun k e hi => HP4.out.free k (.inr (.inr (.inr (.inr (.inr (by rw [own_blk] at e; exact e)))))) hi) (by have := HL1.out; unfold maxLen; simp; omega) (by have := HL1.out; simp; omega) (Nat.zero_le _) ?_
                intro v5 w5 ho5 hk5 hl5
                obtain ⟨a6, c6, rfl, -, -⟩ := own_form ho5; have HO5 := Lib.hid ho5
                have hk5' : Kept (fun k => blkO v3.pa ≠ some k) (w3.drew.alloc (.cells (befCells s (marksL b.txs) v.ta a3 v.ba v.tc c3 v.bc) 300)) w5 := hk5.mono fun k _ h => by rw [own_blk]; exact h
                have HK5 := Lib.hid hk5'; have HL5 := Lib.hid hl5; obtain ⟨z0, z1⟩ := box_cells (box_kept hk5' (box_after HA1.out HP4.out.cell) HP4.out.ne_pa); clear ho5 hk5 hl5 hk5'))
           all_goals
             have HPa := HP4.out.keepB HA1.out; have hl6 := HL5.out; rw [own_blk v3.pa] at hl6; obtain ⟨a7, c7, I7, e7, hor, hI1, hI2, hat⟩ := HPa.pastTo HO5.out HK5.out hl6
             simp only [Value.slice.injEq, true_and] at e7
             obtain ⟨rfl, rfl⟩ := e7; have hz0 : w3.heap.size ≤ (w3.drew.alloc (.cells (befCells s (marksL b.txs) v.ta a3 v.ba v.tc c3 v.bc) 300)).heap.size := HA1.out.size
             have HK6 : Hid (Kept (fun k => ¬ PoMut p v3 k) w3 (w5.setCell ⟨p, 17, none⟩ (.slice a6 (sB.past ++ [befM s b]).length c6))) :=
               ((Kept.of_below HA1.out).trans (HK5.out.mono (S' := fun k => ¬ PoMut p v3 k) fun k _ h e => h (.inr (.inr (.inr (.inr (.inr e)))))) fun _ _ h => h).trans (kept_one w5 p 17 _) fun k _ h e => h (.inl e)
             have HM6 : Hid (∀ k, PoMut p { v3 with pa := a6, pc := c6 } k → PoMut p v3 k ∨ w3.heap.size ≤ k) := fun k hm => by
               rcases hm with e | e | e | e | e | e
               · exact .inl (.inl e)
               · exact .inl (.inr (.inl e))
               · exact .inl (.inr (.inr (.inl e)))
               · exact .inl (.inr (.inr (.inr (.inl e))))
               · exact .inl (.inr (.inr (.inr (.inr (.inl e)))))
               · rcases hor k e with h1 | h1
                 · exact .inl (.inr (.inr (.inr (.inr (.inr h1)))))
                 · exact .inr (by omega)
             have HI6 : Hid (∀ k, I7 k → I3 k ∨ blkO a3 = some k ∨ PoMut p v3 k ∨ w3.heap.size ≤ k) := fun k hi => by
               rcases hI2 k hi with (h1 | h1) | h1 | h1
               · exact .inl h1
               · exact .inr (.inl h1)
               · exact .inr (.inr (.inl (.inr (.inr (.inr (.inr (.inr h1)))))))
               · exact .inr (.inr (.inr (by omega)))
             have HAT := Lib.hid hat
             rw [show (sB.past ++ [befM s b]).length = sB.past.length + 1 by simp] at HK6 HAT
             clear hat hor hI1 hI2 hl6 HPa x0 x1 y0 y1 xx yy z0 z1; go_wp2_with fail
             go_meet
             case rel => exact ⟨I7, _, HAT, HK6, HM6, HI6⟩
         case rest =>
           obtain ⟨I8, v8, HP8, HK8, HM8, HI8⟩ := hcut
           rename World => wX
           have HFK : Hid (FrOK sB.tree r.depth.toNat) := HOKB.out.tree; have HRT := Lib.hid (okP (rootF_in HFK.out)); obtain ⟨D, hD⟩ : ∃ D, r.depth.toNat = D := ⟨_, rfl⟩; rw [hD] at HFK HRT HAW; obtain ⟨rt, hrt⟩ : ∃ x, rootF sB.tree D = x := ⟨_, rfl⟩; have HRE := Lib.hid hrt; rw [hrt] at HRT HAW; clear hD hrt; have hbd : Below wX.heap.size wX wX.drew := (Below.refl _ _).drew; have HPd := Lib.hid (HP8.out.keepB hbd); obtain ⟨y0, y1⟩ := box_cells HPd.out.cell
           simp only [poCells] at y0
           clear hbd
           go_upto_region 13 with (fail)
           go_region_law (first
             | (refine step_append_rel (r := u64R) (base := 0) (v := .slice v8.ra sB.roots.length v8.rc) (u := .slice (some ⟨w7.heap.size, 0, none⟩) 1 1) (S := fun _ => False) rfl _ _ rfl Tryz.etyNums rfl rfl (Own.keepB HP7.out.data.roots (bnew (Below.refl _ _) (.cells #[.int .u64 rt] 24))) HSRC7.out (fun _ _ hk => hk.elim) (fun _ _ h => h) (by have := HL1.out; unfold maxLen; simp; omega) (by have := HL1.out; simp; omega) (Nat.zero_le _) ?_
                intro v5 w5 ho5 hk5 hl5
                obtain ⟨a6, c6, rfl, -, -⟩ := own_form ho5; have HO5 := Lib.hid ho5
                have hk5' : Kept (fun k => blkO v8.ra ≠ some k) (w7.alloc (.cells #[.int .u64 rt] 24)) w5 := hk5.mono fun k _ h => by rw [own_blk]; exact h
                have HK5 := Lib.hid hk5'; have HL5 := Lib.hid hl5; obtain ⟨z0, z1⟩ := box_cells (box_kept hk5' (box_old HP7.out.cell) HP7.out.ne_ra); clear ho5 hk5 hl5 hk5')
             | (go_simp; go_at_call 69
                refine (frRoot_any I8 _ sB.tree D HFK.out v8.ta v8.tc HPd.out.data.tree).mono ?_
                rw [HRE.out]; rintro e w7 ⟨rfl, hb7⟩; have HB7 : Hid (Below wX.heap.size wX w7) := bnext ((Below.refl wX.heap.size wX).drew) hb7; have HP7 := Lib.hid (HP8.out.keepB HB7.out)
                have HSRC7 : Hid (Src u64R (fun _ => False) (w7.alloc (.cells #[.int .u64 rt] 24)) (.slice (some ⟨w7.heap.size, 0, none⟩) 1 1) [rt]) := Src.one (r := u64R) (y := rt) ⟨rfl, HRT.out⟩ (CellsAt.new w7 [.int .u64 rt] 24)
                obtain ⟨t0, t1⟩ := box_cells HP7.out.cell
                have tt := fun o' => (box_cells (box_old (o' := o') HP7.out.cell)).1
                simp only [poCells] at t0 tt
                clear hb7))
           all_goals
             have HA7 : Hid (Below wX.heap.size wX (w7.alloc (.cells #[.int .u64 rt] 24))) := bnew HB7.out _; have HPa := HP8.out.keepB HA7.out; have hl6 := HL5.out; rw [own_blk v8.ra] at hl6; obtain ⟨a7, c7, e7, hor, hat⟩ := HPa.rootsTo HO5.out HK5.out hl6
             simp only [Value.slice.injEq, true_and] at e7
             obtain ⟨rfl, rfl⟩ := e7; have hz0 : wX.heap.size ≤ (w7.alloc (.cells #[.int .u64 rt] 24)).heap.size := HA7.out.size; have hz1 := HK8.out.size; have hz2 := HS3.out.kept.size; have hz3 := (bnext HB1.out HWc.out).size; have hz4 := HB1.out.size
             have h1 : Kept (fun k => ¬ PoMut p v k) w wc := Kept.of_below (bnext HB1.out HWc.out)
             have h2 : Kept (fun k => ¬ PoMut p v k) w w3 := h1.trans HS3.out.kept fun k hk hn => ⟨hn, by omega, by simp⟩
             have h3 : Kept (fun k => ¬ PoMut p v k) w wX := h2.trans HK8.out fun k hk hn hm => by
               rcases HS3.out.turn k hm with h4 | h4
               · exact hn h4
               · omega
             have hm8 : ∀ k, PoMut p v8 k → PoMut p v k ∨ w.heap.size ≤ k := fun k hm => by
               rcases HM8.out k hm with h4 | h4
               · rcases HS3.out.turn k h4 with h5 | h5
                 · exact .inl h5
                 · exact .inr (by omega)
               · exact .inr (by omega)
             have HKF : Hid (Kept (fun k => ¬ PoMut p v k) w (w5.setCell ⟨p, 16, none⟩ (.slice a6 (sB.roots ++ [rt]).length c6))) := by
               refine ((h3.trans (Kept.of_below HA7.out) fun _ _ h => h).trans HK5.out fun k hk hn e => ?_).trans (kept_one w5 p 16 _) fun k _ h e => h (.inl e)
               rcases hm8 k (.inr (.inr (.inr (.inr (.inl e))))) with h4 | h4
               · exact hn h4
               · omega
             have HMF : Hid (∀ k, PoMut p { v8 with ra := a6, rc := c6 } k → PoMut p v k ∨ w.heap.size ≤ k) := fun k hm => by
               rcases hm with e | e | e | e | e | e
               · exact hm8 k (.inl e)
               · exact hm8 k (.inr (.inl e))
               · exact hm8 k (.inr (.inr (.inl e)))
               · exact hm8 k (.inr (.inr (.inr (.inl e))))
               · rcases hor k e with h4 | h4
                 · exact hm8 k (.inr (.inr (.inr (.inr (.inl h4)))))
                 · exact .inr (by omega)
               · exact hm8 k (.inr (.inr (.inr (.inr (.inr e)))))
             have HIF : Hid (∀ k, I8 k → I k ∨ PoMut p v k ∨ w.heap.size ≤ k) := fun k hi => by
               rcases HI8.out k hi with h4 | h4 | h4 | h4
               · rcases HS3.out.im' k h4 with h5 | h5
                 · exact .inl h5
                 · exact .inr (.inr (by omega))
               · rcases HS3.out.mm k h4 with h5 | h5
                 · simp at h5
                 · exact .inr (.inr (by omega))
               · rcases HS3.out.turn k h4 with h5 | h5
                 · exact .inr (.inl h5)
                 · exact .inr (.inr (by omega))
               · exact .inr (.inr (by omega))
             have HAT := Lib.hid hat
             rw [show (sB.roots ++ [rt]).length = sB.roots.length + 1 by simp] at HKF HAT
             clear hat hor hl6 HPa y0 y1 t0 t1 tt z0 z1 h1 h2 h3 hm8; go_wp2_with fail; go_ret; rw [apW_ok HE.out, HE.out, HAW.out]
             exact ⟨rfl, I8, _, HAT.out, HKF.out, HMF.out, HIF.out⟩
       · have HE : Hid (applyE r s b = blockE r s b) := HU2.out
         have HNE := Lib.hid he
         have z4 : (blockE r s b == 0) = false := by rw [beq_eq_false_iff_ne]; exact he
         have z5 : (blockE r s b != 0) = true := by rw [bne_iff_ne]; exact he
         obtain ⟨y, hy⟩ : ∃ y, blockE r s b = y := ⟨_, rfl⟩; have HY := Lib.hid hy; rw [hy] at z4 z5 ⊢; clear hy he hgood; obtain ⟨x0, x1⟩ := box_cells HP3.out.bef
         have HNA := Lib.hid (numsR.mono HP3.out.own.slice (S' := fun k => blkO a3 = some k) fun _ _ h => h)
         have HLV := Lib.hid (leaves_len hok')
         have hll : s.leaves.length ≤ (s' : PoM).leaves.length := by have := congrArg List.length HPT.out.leaves; rw [List.length_take] at this; omega
         go_wp2_with fail
         refine (restore_any p I3 w3 r s' v3 HP3.out.at' ⟨s.tree, s.leaves.length, m', s.book, s.hidden⟩ s.leaves.length rfl hll HLV.out (by have := hok'.marks; omega) (by show m'.length ≤ _; omega) v.ta a3 v.ba v.tc c3 v.bc HP3.out.tree HP3.out.book _ HNA.out (fun k e => HP3.out.m1 k e) HP3.out.hidden).mono ?_
         rintro e w4 ⟨rfl, hp4, hk4⟩; rw [rest_part HPT.out HUP.out] at hp4; have HP4 := Lib.hid hp4; have HK4 := Lib.hid hk4; clear hp4 hk4 x0 x1; go_wp2_with fail; go_ret
         rw [apW_bad (by rw [HE.out]; exact HNE.out), HE.out, HY.out]
         have hz1 := HB1.out.size; have hz2 := HWc.out.size; have hz3 := HS3.out.kept.size
         have hqm : ∀ k, k < w.heap.size → k ≠ q := fun k hk e => by omega
         refine ⟨rfl, I3, _, HP4.out, ?_, ?_, ?_⟩
         · have h1 : Kept (fun k => ¬ PoMut p v k) w wc := Kept.of_below (bnext HB1.out HWc.out)
           have h2 : Kept (fun k => ¬ PoMut p v k) w w3 := h1.trans HS3.out.kept fun k hk hn => ⟨hn, hqm k hk, by simp⟩
           refine h2.trans HK4.out fun k hk hn hm => ?_
           rcases HS3.out.turn k hm with h3 | h3
           · exact hn h3
           · have := (bnext HB1.out HWc.out).size; omega
         · intro k hm
           rcases HS3.out.turn k hm with h3 | h3
           · exact .inl h3
           · exact .inr (by have := (bnext HB1.out HWc.out).size; omega)
         · intro k hi
           rcases HS3.out.im' k hi with h3 | h3
           · exact .inl h3
           · exact .inr (.inr (by have := (bnext HB1.out HWc.out).size; omega))
   · have HF := Lib.hid (HU1.out.trans (if_neg hm))
     have z3 : decide (18446744069414584321 ≤ b.miner) = true := decide_eq_true (by omega)
     have HPF : Hid (PoTo p I v w r s w1) := PoTo.of_below HP0.out HB1.out; clear hm; go_wp2_with fail; go_ret
     rw [apW_bad (by rw [HF.out]; omega), HF.out]
     exact ⟨rfl, HPF.out⟩
 · have HF := Lib.hid (HU.out.trans (if_neg hh))
   have z1 : (b.height == (s.past.length : Int) + 1) = false := by rw [beq_eq_false_iff_ne]; exact hh
   have z2 : (b.height != (s.past.length : Int) + 1) = true := by rw [bne_iff_ne]; exact hh
   clear hh HU; go_wp2_with fail
   refine wp_region_quiet_below (by kernel_rfl) (by kernel_rfl) ?_
   repeat (first | go_big_quiet_step (fail) | quiet_step (fail))
   refine wpQuiet_nil ?_
   intro w1 hw'
   obtain ⟨⟨dq, osq⟩, hw''⟩ := hw'; have hbw1 := below_regrown W dq osq; rw [← hw''] at hbw1; clear hw'' x0 y0; have HPF : Hid (PoTo p I v w r s w1) := PoTo.of_below HP0.out (bnext HB.out hbw1); go_wp2_with fail; go_ret
   rw [apW_bad (by rw [HF.out]; omega), HF.out]
   exact ⟨rfl, HPF.out⟩
end Go.Proofs.YtphacfkcifpobaaGreatDoor
/- A row whose cells are known, element by element; one cell of it is stored. Nothing of the program is named here; no conditions. -/
namespace Go.Proofs.YtphacfkcifpobaaGreatDoor
open Go.ChangeShapes Go.WideShapes Go.ChangeAt Go.RowKit
theorem flatten_set {β : Type} {n : Nat} (v : β) : ∀ (css : List (List β)), (∀ cs ∈ css, cs.length = n) → ∀ i j (_hi : i < css.length) (_hj : j < n), css.flatten.set (i * n + j) v = (css.set i (css[i].set j v)).flatten
 | [], _, i, j, hi, _ => by simp at hi
 | d :: css, hl, 0, j, hi, hj => by
   have hd : d.length = n := hl d (by simp)
   simp only [List.flatten_cons, List.set_cons_zero, List.getElem_cons_zero, Nat.zero_mul, Nat.zero_add]
   rw [List.set_append, if_pos (by omega)]
 | d :: css, hl, i + 1, j, hi, hj => by
   have hd : d.length = n := hl d (by simp)
   have hi' : i < css.length := by simpa using hi
   have ih := flatten_set v css (fun cs hc => hl cs (by simp [hc])) i j hi' hj
   simp only [List.flatten_cons, List.set_cons_succ, List.getElem_cons_succ]
   rw [List.set_append, if_neg (by rw [hd, Nat.succ_mul]; omega), hd, ← ih]
   congr 2
   rw [Nat.succ_mul]; omega
structure RowC (e : TypeId) (n : Nat) (w : World) (g cap : Nat) (css : List (List Value)) : Prop where
 lens : ∀ cs ∈ css, cs.length = n
 le : css.length ≤ cap
 cell : ∃ cur : Array Value, w.heap[g]? = some (.cells cur e (0, 0)) ∧ cur.size = cap * n ∧ cur.toList.take (css.length * n) = css.flatten
section
variable {e : TypeId} {n : Nat} {w w' : World} {g cap : Nat} {css : List (List Value)}
theorem RowC.lt (h : RowC e n w g cap css) : g < w.heap.size := by obtain ⟨cur, hg, -⟩ := h.cell; exact box_lt hg
theorem RowC.at' (h : RowC e n w g cap css) (hb : w'.heap[g]? = w.heap[g]?) : RowC e n w' g cap css := by
 obtain ⟨cur, hg, h2⟩ := h.cell
 exact ⟨h.lens, h.le, cur, hb.trans hg, h2⟩
theorem RowC.keep {S : Nat → Prop} (h : RowC e n w g cap css) (hk : Kept S w w') (hS : S g) : RowC e n w' g cap css := h.at' (hk.block g h.lt hS)
theorem RowC.keepB (h : RowC e n w g cap css) (hb : Below w.heap.size w w') : RowC e n w' g cap css := h.keep (S := fun k => k < w.heap.size) (Kept.of_below hb) h.lt
theorem RowC.get (h : RowC e n w g cap css) (i j : Nat) (hi : i < css.length) (hj : j < n) : w.cell? ⟨g, i * n + j, none⟩ = some (css[i][j]'(by rw [h.lens _ (List.getElem_mem hi)]; exact hj)) := by
 obtain ⟨cur, hg, h1, h2⟩ := h.cell; have hl := h.lens _ (List.getElem_mem hi)
 have h3 := flatten_at h.lens i css[i] (by simp [hi]) j (css[i][j]'(by rw [hl]; exact hj)) (by simp [hl, hj])
 rw [← h2, List.getElem?_take] at h3; rw [(box_cells hg).1, ← Array.getElem?_toList]
 split at h3
 · exact h3
 · simp at h3
theorem RowC.froz (h : RowC e n w g cap css) (i : Nat) : w.frozen? ⟨g, i, none⟩ = false := by
 obtain ⟨cur, hg, -⟩ := h.cell
 exact (box_cells hg).2 i
theorem RowC.set (h : RowC e n w g cap css) (i j : Nat) (hi : i < css.length) (hj : j < n) (v : Value) : RowC e n (w.setCell ⟨g, i * n + j, none⟩ v) g cap (css.set i (css[i].set j v)) := by
 obtain ⟨cur, hg, h1, h2⟩ := h.cell; have hl := h.lens _ (List.getElem_mem hi)
 refine ⟨fun cs hc => ?_, by rw [List.length_set]; exact h.le, cur.setIfInBounds (i * n + j) v, box_set hg, by simpa using h1, ?_⟩
 · rcases List.mem_or_eq_of_mem_set hc with hc | rfl
   · exact h.lens cs hc
   · rw [List.length_set, hl]
 · rw [Array.toList_setIfInBounds, List.length_set, ← flatten_set v css h.lens i j hi hj, ← h2, List.take_set]
end
theorem Own.rowC {α : Type} {r : Rep α} {base : Nat} {e : TypeId} {F : Nat → Prop} {w : World} {v : Value} {xs : List α} (h : Own r base e F w v xs) (h0 : 0 < xs.length) :
   ∃ g cap css S, v = .slice (some ⟨g, 0, none⟩) xs.length cap ∧ base ≤ g ∧ F g ∧ cap ≤ maxLen ∧ RowC e r.n w g cap css ∧ css.length = xs.length ∧ (∀ k, S k → F k ∧ k < w.heap.size ∧ k ≠ g) ∧ ∀ (i : Nat) (cs : List Value) (x : α), css[i]? = some cs → xs[i]? = some x → r.rel S w cs x := by
 obtain ⟨S, css, hS, hv, hl, hr, ho⟩ := h
 rcases ho.2 with ⟨rfl, h0'⟩ | ⟨g, cap, cur, rfl, hb, hg, h1, h2, h3, h4⟩
 · omega
 · exact ⟨g, cap, css, S, rfl, hb, (hv g rfl).2, h2, ⟨all_len hl hr, by rw [hl]; exact h1, cur, hg, h3, by rw [hl]; exact h4⟩, hl,
     fun k hk => ⟨(hS k hk).1, (hS k hk).2, fun e => (hv g rfl).1 (e ▸ hk)⟩, hr⟩
theorem RowC.slice {α : Type} {r : Rep α} {e : TypeId} {F : Nat → Prop} {w : World} {g cap : Nat} {css : List (List Value)} {xs : List α} (h : RowC e r.n w g cap css) (hc : cap ≤ maxLen) (hl : css.length = xs.length)
   (hr : ∀ (i : Nat) (cs : List Value) (x : α), css[i]? = some cs → xs[i]? = some x → r.rel F w cs x) (hF : F g) : (sliceR r).rel F w [.slice (some ⟨g, 0, none⟩) xs.length cap] xs := by
 have hle := h.le
 refine ⟨_, _, _, rfl, rfl, by omega, hc, fun h => by simp at h, fun i x hx => ?_⟩
 have hi : i < xs.length := (List.getElem?_eq_some_iff.1 hx).1
 have hcs : css[i]? = some (css[i]'(by omega)) := by simp [hl, hi]
 refine ⟨g, 0, css[i]'(by omega), rfl, hF, hr i _ x hcs hx, fun j c hj => ?_, h.lt⟩
 obtain ⟨hj1, rfl⟩ := List.getElem?_eq_some_iff.1 hj
 have := h.get i j (by omega) (by rw [← h.lens _ (List.getElem_mem (show i < css.length by omega))]; exact hj1)
 simpa using this
end Go.Proofs.YtphacfkcifpobaaGreatDoor
/- The state of a chain of the program: Undo, Height. -/
namespace Go.Proofs.YtphacfkcifpobaaGreatDoor
open Go.ChangeShapes Go.WideShapes Go.ChangeAt Go.RowKit Go.Sort
def undoW (s : PoM) (pl : List BefM) (bf : BefM) (rl : List Int) : PoM := ⟨bf.tree, s.leaves.take bf.leaves.toNat, remW s.marks bf.marks, bf.book, bf.hidden, rl, pl⟩
set_option maxHeartbeats 4000000 in
theorem undo_any (p : Nat) (I : Nat → Prop) (w : World) (r : RuM) (s : PoM) (v : PoV) (h : PoAt p I w r s v) (pl : List BefM) (bf : BefM) (hp : s.past = pl ++ [bf]) (hpl : pl.length ≤ 10000) (ln : Nat) (hln : bf.leaves = ln) (hll : ln ≤ s.leaves.length) (hs1 : s.leaves.length ≤ 1000000) (hs2 : s.marks.length ≤ 1000000000) (hs3 : bf.marks.length ≤ 1000000) (rl : List Int) (rt : Int) (hr : s.roots = rl ++ [rt]) (hrl : rl.length ≤ 100000) :
   Calls Tryz.prog 135 #[.pointer (some ⟨p, 0, none⟩)] w fun e w' => e = .returned (.bool true) ∧ PoTo p I v w r (undoW s pl bf rl) w' := by
 have hn : s.past.length = pl.length + 1 := by rw [hp]; simp
 have hrn : s.roots.length = rl.length + 1 := by rw [hr]; simp
 obtain ⟨g, cap, css, S, hv, -, hFg, hcm, hrow, hcl, hSI, hrel⟩ := h.data.past.rowC (by omega)
 simp only [Value.slice.injEq] at hv
 obtain ⟨hpa, -, hpc⟩ := hv
 have hi : pl.length < css.length := by omega
 have hbr := hrel pl.length css[pl.length] bf (by simp [hi]) (by rw [hp]; simp)
 obtain ⟨ta, na, ba, tc, nc, bc, hcs, hin⟩ := befR.inv hbr
 have hSI' : ∀ k, S k → I k := fun k hk => by
   obtain ⟨h1, h2, h3⟩ := hSI k hk
   rcases h1 with h1 | h1
   · exact h1
   · rw [hpa] at h1; exact absurd (Option.some.inj h1).symm h3
 have hgp : blkO v.pa = some g := by rw [hpa]; rfl
 have hcell : ∀ j (hj : j < 7), w.cell? ⟨g, pl.length * 7 + j, none⟩ = (#[.int .i64 bf.tree.depth, .int .i64 bf.tree.count, .slice ta bf.tree.left.length tc, .int .i64 (ln : Nat), .slice na bf.marks.length nc, .slice ba bf.book.length bc, .int .u64 bf.hidden] : Array Value)[j]? := fun j hj => by
   have hrow7 : RowC 300 7 w g cap css := hrow; have h1 := hrow7.get pl.length j hi hj
   have h2 : css[pl.length][j]? = some (css[pl.length][j]'(by rw [hrow7.lens _ (List.getElem_mem hi)]; exact hj)) := List.getElem?_eq_getElem _
   rw [h1, ← h2, hcs, hln]
   simp only [List.getElem?_toArray]
 have c0 : w.cell? ⟨g, pl.length * 7, none⟩ = some (.int .i64 bf.tree.depth) := hcell 0 (by omega)
 have c1 : w.cell? ⟨g, pl.length * 7 + 1, none⟩ = some (.int .i64 bf.tree.count) := hcell 1 (by omega)
 have c2 : w.cell? ⟨g, pl.length * 7 + 2, none⟩ = some (.slice ta bf.tree.left.length tc) := hcell 2 (by omega)
 have c3 : w.cell? ⟨g, pl.length * 7 + 3, none⟩ = some (.int .i64 (ln : Nat)) := hcell 3 (by omega)
 have c4 : w.cell? ⟨g, pl.length * 7 + 4, none⟩ = some (.slice na bf.marks.length nc) := hcell 4 (by omega)
 have c5 : w.cell? ⟨g, pl.length * 7 + 5, none⟩ = some (.slice ba bf.book.length bc) := hcell 5 (by omega)
 have c6 : w.cell? ⟨g, pl.length * 7 + 6, none⟩ = some (.int .u64 bf.hidden) := hcell 6 (by omega)
 obtain ⟨x0, x1⟩ := box_cells h.cell
 simp only [poCells, hn, hpa] at x0
 have hTR := numsR.mono hin.tree fun k _ hk => hSI' k hk
 have hBK := (accsR).mono hin.book fun k _ hk => hSI' k hk
 have HMK := Lib.hid hin.marks; have HHD := Lib.hid hin.hidden; have HTR := Lib.hid hTR; have HBK := Lib.hid hBK; have HP := Lib.hid h
 have HSM : Hid (∀ k, S k → ¬ PoMut p v k) := fun k hk hm => h.free k hm (hSI' k hk)
 have HGP := Lib.hid hgp
 have hge : pl.length + 1 ≤ v.pc := by rw [hpc]; have := hrow.le; omega
 have HROW := Lib.hid hrow
 have HRW : Hid (restW s bf = ⟨bf.tree, s.leaves.take ln, remW s.marks bf.marks, bf.book, bf.hidden, s.roots, s.past⟩) := by show PoM.mk _ _ _ _ _ _ _ = _; rw [hln, Int.toNat_natCast]
 have HUW : Hid (undoW s pl bf rl = ⟨bf.tree, s.leaves.take ln, remW s.marks bf.marks, bf.book, bf.hidden, rl, pl⟩) := by show PoM.mk _ _ _ _ _ _ _ = _; rw [hln, Int.toNat_natCast]
 have HLN := Lib.hid hln; have HN := Lib.hid hn; have HRN := Lib.hid hrn; have HPP := Lib.hid hp; have HRR := Lib.hid hr; clear h hrel hbr hcs hin hSI hSI' hcell hTR hBK hgp hrow hFg hi hcl hln hn hrn hp hr hpa hpc hcm
 have i0 : (0 : Int) ≤ (pl.length : Int) := by omega
 go_enter Tryz.func135, Tryz.ntmps135
 go_wp2_with fail
 refine (restore_any p I w r s v HP.out bf ln HLN.out hll hs1 hs2 hs3 ta na ba tc nc bc HTR.out HBK.out S HMK.out HSM.out HHD.out).mono ?_
 rintro e w2 ⟨rfl, hp2, hk2⟩; rw [HRW.out] at hp2; have HP2 := Lib.hid hp2; have HK2 := Lib.hid hk2; clear hp2 hk2 c0 c1 c2 c3 c4 c5 c6 x0 x1 HTR HBK HMK HHD
 obtain ⟨g', hpa2, hat3, hgne⟩ := HP2.out.clearPast pl.length (by show pl.length < s.past.length; rw [HN.out]; omega)
 have hgg : g' = g := by
   have h1 : v.pa = some ⟨g', 0, none⟩ := hpa2; have h2 := HGP.out; rw [h1] at h2
   exact Option.some.inj h2
 subst hgg; obtain ⟨x0, x1⟩ := box_cells HP2.out.cell; have hpa3 : v.pa = some ⟨g', 0, none⟩ := hpa2
 simp only [poCells, HN.out, hpa3] at x0
 have hpl2 : (⟨bf.tree, s.leaves.take ln, remW s.marks bf.marks, bf.book, bf.hidden, s.roots, s.past⟩ : PoM).past.length = pl.length + 1 := HN.out
 obtain ⟨g2, cap2, css2, S2, hv2, -, -, -, hrow2, hcl2, -, -⟩ := HP2.out.data.past.rowC (by omega)
 simp only [Value.slice.injEq] at hv2
 have hg2 : g' = g2 := by
   have h1 := hv2.1; rw [hpa3] at h1
   simpa using h1
 subst hg2; have hrow7 : RowC 300 7 w2 g' cap2 css2 := hrow2
 have hi2 : pl.length < css2.length := by omega
 have hfz : ∀ j, w2.frozen? ⟨g', j, none⟩ = false := fun j => hrow7.froz j
 obtain ⟨u0, d0⟩ : ∃ u, w2.cell? ⟨g', pl.length * 7, none⟩ = some u := ⟨_, hrow7.get pl.length 0 hi2 (by omega)⟩
 obtain ⟨u1, d1⟩ : ∃ u, w2.cell? ⟨g', pl.length * 7 + 1, none⟩ = some u := ⟨_, hrow7.get pl.length 1 hi2 (by omega)⟩
 obtain ⟨u2, d2⟩ : ∃ u, w2.cell? ⟨g', pl.length * 7 + 2, none⟩ = some u := ⟨_, hrow7.get pl.length 2 hi2 (by omega)⟩
 obtain ⟨u3, d3⟩ : ∃ u, w2.cell? ⟨g', pl.length * 7 + 3, none⟩ = some u := ⟨_, hrow7.get pl.length 3 hi2 (by omega)⟩
 obtain ⟨u4, d4⟩ : ∃ u, w2.cell? ⟨g', pl.length * 7 + 4, none⟩ = some u := ⟨_, hrow7.get pl.length 4 hi2 (by omega)⟩
 obtain ⟨u5, d5⟩ : ∃ u, w2.cell? ⟨g', pl.length * 7 + 5, none⟩ = some u := ⟨_, hrow7.get pl.length 5 hi2 (by omega)⟩
 obtain ⟨u6, d6⟩ : ∃ u, w2.cell? ⟨g', pl.length * 7 + 6, none⟩ = some u := ⟨_, hrow7.get pl.length 6 hi2 (by omega)⟩
 have HAT3 := Lib.hid hat3; have HNE := Lib.hid hgne; clear hrow2 hrow7 hi2 hcl2 hv2 hpl2 hat3 hgne hpa2
 go_upto_region 6 with (fail)
 have hk3 : Kept (fun k => ¬ PoMut p v k) w (w2.setCells g' (pl.length * 7) [.int .i64 0, .int .i64 0, .slice none 0 0, .int .i64 0, .slice none 0 0, .slice none 0 0, .int .u64 0]) := HK2.out.trans (kept_cells w2 (q := g') (S := fun k => ¬ PoMut p v k) (fun h => h (.inr (.inr (.inr (.inr (.inr HGP.out)))))) _ _) fun _ _ h => h
 obtain ⟨w3, hwf⟩ : ∃ wf, wf = w2.setCells g' (pl.length * 7) [.int .i64 0, .int .i64 0, .slice none 0 0, .int .i64 0, .slice none 0 0, .slice none 0 0, .int .u64 0] := ⟨_, rfl⟩; rw [← hwf] at HAT3 hk3
 simp only [World.setCells] at hwf
 rw [← hwf]; have HK3 := Lib.hid hk3; clear hwf hk3 x0 x1 d0 d1 d2 d3 d4 d5 d6 hfz HP2 HROW
 have hsl : (s.past.set pl.length zeroBef).length = pl.length + 1 := by rw [List.length_set, HN.out]
 obtain ⟨x0, x1⟩ := box_cells HAT3.out.cell
 simp only [poCells, hsl, hpa3] at x0
 have i1 : (pl.length : Int) ≤ (v.pc : Int) := by omega
 have i2 : pl.length ≤ v.pc := by omega
 have HAT4 := Lib.hid (HAT3.out.cutPast pl.length (by show pl.length ≤ (s.past.set pl.length zeroBef).length; omega))
 have HK4 : Hid (Kept (fun k => ¬ PoMut p v k) w (w3.setCell ⟨p, 17, none⟩ (.slice v.pa pl.length v.pc))) := HK3.out.trans (kept_one w3 p 17 _) fun k _ h e => h (.inl e)
 have HPQ : Hid ((s.past.set pl.length zeroBef).take pl.length = pl) := by
   show _ = _
   rw [HPP.out]; simp
 go_upto_region 7 with (fail)
 rw [← hpa3]
 have HAT4' : Hid (PoAt p I (w3.setCell ⟨p, 17, none⟩ (.slice v.pa pl.length v.pc)) r ⟨bf.tree, s.leaves.take ln, remW s.marks bf.marks, bf.book, bf.hidden, s.roots, pl⟩ { v with ta := ta, tc := tc, ba := ba, bc := bc }) := by
   have := HAT4.out
   simp only [HPQ.out] at this
   exact this
 clear HAT4 x0 x1 hsl i1 i2 HAT3 HK3; generalize w3.setCell ⟨p, 17, none⟩ (.slice v.pa pl.length v.pc) = w4 at *
 have hrl2 : 0 < s.roots.length := by rw [HRN.out]; omega
 obtain ⟨gr, hra⟩ := own_at HAT4'.out.data.roots hrl2; have hra' : v.ra = some ⟨gr, 0, none⟩ := hra; have hcr : s.roots.length ≤ v.rc := (sliceR.lens HAT4'.out.data.roots.slice).2.1
 have j1 : rl.length ≤ v.rc := by have := HRN.out; omega
 have j2 : (rl.length : Int) ≤ (v.rc : Int) := by omega
 have y0 := box_regrown HAT4'.out.cell
 simp only [poCells, HRN.out, hra'] at y0
 clear hcr hra hrl2
 refine wp_region_quiet_tail 12 (by kernel_rfl) (by kernel_rfl) ?_
 simp only [List.take_succ_cons, List.take_zero, List.drop_succ_cons, List.drop_zero]
 repeat (first | go_big_quiet_step (fail) | quiet_step (fail))
 refine wpQuiet_nil ?_
 intro w5 hw'
 obtain ⟨⟨dq, osq⟩, hw''⟩ := hw'; have hbw5 := below_regrown w4 dq osq; rw [← hw''] at hbw5; clear hw'' y0; have HP5 := Lib.hid (HAT4'.out.keepB hbw5)
 have HK5 : Hid (Kept (fun k => ¬ PoMut p v k) w w5) := HK4.out.trans (Kept.of_below (S := fun k => ¬ PoMut p v k) hbw5) fun _ _ h => h
 obtain ⟨y0, y1⟩ := box_cells HP5.out.cell
 have HP6 := Lib.hid (HP5.out.cutRoots rl.length (by show rl.length ≤ s.roots.length; rw [HRN.out]; omega))
 have HK6 : Hid (Kept (fun k => ¬ PoMut p v k) w (w5.setCell ⟨p, 16, none⟩ (.slice v.ra rl.length v.rc))) := HK5.out.trans (kept_one w5 p 16 _) fun k _ h e => h (.inl e)
 have HRQ : Hid (s.roots.take rl.length = rl) := by show _ = _; rw [HRR.out]; simp
 have HP7 : Hid (PoAt p I (w5.setCell ⟨p, 16, none⟩ (.slice v.ra rl.length v.rc)) r ⟨bf.tree, s.leaves.take ln, remW s.marks bf.marks, bf.book, bf.hidden, rl, pl⟩ { v with ta := ta, tc := tc, ba := ba, bc := bc }) := by
   have := HP6.out
   simp only [HRQ.out] at this
   exact this
 clear HP6; go_wp2_with fail; go_ret; rw [← hra', HUW.out]
 exact ⟨rfl, I, _, HP7.out, HK6.out, fun _ h => .inl h, fun _ h => .inl h⟩
end Go.Proofs.YtphacfkcifpobaaGreatDoor
/- The state of a chain of the program: New. -/
namespace Go.Proofs.YtphacfkcifpobaaGreatDoor
open Go.ChangeShapes Go.WideShapes Go.ChangeAt Go.RowKit Go.Sort
abbrev ruleE (r : RuM) : Int := rulesE r.mode r.depth r.bl r.bu r.qu r.rew r.win r.fin r.work
theorem ruleE_ok {r : RuM} (h : ruleE r = 0) (hr : okU r.rew) : RuOK r := by
 rcases Classical.em (1 ≤ r.mode ∧ r.mode ≤ 3 ∧ 1 ≤ r.depth ∧ r.depth ≤ 12 ∧ 1 ≤ r.win ∧ r.win ≤ 100 ∧ 1 ≤ r.fin ∧ r.fin ≤ 1048576 ∧ r.rew ≤ 4294967296 ∧ 1 ≤ r.work ∧ r.work ≤ 65536) with hh | hh
 · exact ⟨hh.2.2.1, hh.2.2.2.1, hh.2.2.2.2.1, hh.2.2.2.2.2.1, hh.2.2.2.2.2.2.1, hh.2.2.2.2.2.2.2.1, hh.2.2.2.2.2.2.2.2.1, hr, hh.2.2.2.2.2.2.2.2.2.1, hh.2.2.2.2.2.2.2.2.2.2⟩
 · have := rulesE_one (bl := r.bl) (bu := r.bu) (q := r.qu) hh
   rw [show ruleE r = 1 from this.symm] at h
   omega
def PoNew (r : RuM) (w : World) (e : Ending) (w' : World) : Prop :=
 ∃ (p : Nat) (I : Nat → Prop) (v : PoV), e = .returned (.tuple #[.pointer (some ⟨p, 0, none⟩), .int .i64 0]) ∧ PoAt p I w' r (newP r) v ∧ (∀ k, PoMut p v k → w.heap.size ≤ k) ∧ (∀ k, I k → w.heap.size ≤ k) ∧ Below w.heap.size w w'
theorem poNew_mk {r : RuM} {D : Nat} (hD : r.depth = D) {n0 B : Nat} {w3 E : World} (hB : B = w3.heap.size) (hb : Below B w3 E) {p sb mb rb : Nat} {ta : Option Addr} {tc : Nat} {rt : Int} (hrt : rootF (newF D) D = rt) (ho : okU rt)
   (hc : E.heap[p]? = some (.cells #[.int .i64 r.mode, .int .i64 D, .int .i64 r.bl, .int .i64 r.bu, .int .i64 r.qu, .int .u64 r.rew, .int .i64 r.win, .int .i64 r.fin, .int .u64 r.work, .int .i64 D, .int .i64 0, .slice ta (newF D).left.length tc, .slice none 0 0, .pointer (some ⟨sb, 0, none⟩), .slice none 0 0, .int .u64 0, .slice (some ⟨rb, 0, none⟩) 1 1, .slice none 0 0] 158 (0, 0)))
   (htr : numsR.rel (fun k => n0 ≤ k) w3 [.slice ta (newF D).left.length tc] (newF D).left) (hmk : MkAt sb mb E []) (hrow : E.heap[rb]? = some (.cells #[.int .u64 rt] 24 (0, 0)))
   (h1 : B ≤ p) (h2 : B ≤ sb) (h3 : B ≤ mb) (h4 : B ≤ rb) : PoAt p (fun k => n0 ≤ k ∧ k < B) E r (newP r) ⟨ta, tc, none, 0, sb, mb, none, 0, some ⟨rb, 0, none⟩, 1, none, 0⟩ := by
 subst hB
 have hdn : r.depth.toNat = D := by rw [hD, Int.toNat_natCast]
 have hnp : newP r = ⟨newF D, [], [], [], 0, [rt], []⟩ := by unfold newP; rw [hdn, hrt]
 rw [hnp]
 refine ⟨?_, ⟨numsR.keepB (numsR.bound htr) hb, Own.nil _ _ _ _ _, hmk, sliceR.nil, okU_of (by show (0 : Int) ≤ 0; omega) (by show (0 : Int) < _; omega), ?_, Own.nil _ _ _ _ _⟩, fun k e => by simp at e, fun k hm hi => ?_, fun k hi => Nat.lt_of_lt_of_le hi.2 hb.size⟩
 · rw [hc]
   show some (Obj.cells #[_, .int .i64 (D : Int), _, _, _, _, _, _, _, _, _, _, _, _, _, _, _, _] _ _) = some (Obj.cells #[_, .int .i64 r.depth, _, _, _, _, _, _, _, _, _, _, _, _, _, _, _, _] _ _)
   rw [hD]; rfl
 · have := own_ints (k := .u64) (base := 0) (cap := 1) (xs := [rt]) (cur := [.int .u64 rt]) hrow rfl rfl (by intro x hx; simp at hx; subst hx; exact ho) (by simp) (by unfold maxLen; omega) (Nat.zero_le _)
   exact this.tight
 · obtain ⟨h5, h6⟩ := hi
   rcases hm with e | e | e | e | e | e
   · omega
   · have e' : k = sb := e; omega
   · have e' : k = mb := e; omega
   · simp at e
   · have e' : rb = k := by simpa using e
     omega
   · simp at e
set_option maxHeartbeats 4000000 in
theorem poNew_any (w : World) (r : RuM) (h : ruleE r = 0) (hr : okU r.rew) :
   Calls Tryz.prog 39 #[.agg #[.int .i64 r.mode, .int .i64 r.depth, .int .i64 r.bl, .int .i64 r.bu, .int .i64 r.qu, .int .u64 r.rew, .int .i64 r.win, .int .i64 r.fin, .int .u64 r.work]] w (PoNew r w) := by
 have HR := Lib.hid (ruleE_ok h hr); have HB := Lib.hid (bnew (Below.refl w.heap.size w) (.cells #[.int .i64 r.mode, .int .i64 r.depth, .int .i64 r.bl, .int .i64 r.bu, .int .i64 r.qu, .int .u64 r.rew, .int .i64 r.win, .int .i64 r.fin, .int .u64 r.work] 26)); have HX := Lib.hid (box_new w (.cells #[.int .i64 r.mode, .int .i64 r.depth, .int .i64 r.bl, .int .i64 r.bu, .int .i64 r.qu, .int .u64 r.rew, .int .i64 r.win, .int .i64 r.fin, .int .u64 r.work] 26)); have HE := Lib.hid h; clear h hr
 go_enter Tryz.func39, Tryz.ntmps39
 go_upto_region 1 with (fail)
 generalize w.alloc (.cells #[.int .i64 r.mode, .int .i64 r.depth, .int .i64 r.bl, .int .i64 r.bu, .int .i64 r.qu, .int .u64 r.rew, .int .i64 r.win, .int .i64 r.fin, .int .u64 r.work] 26) = W at *; obtain ⟨x0, x1⟩ := box_cells HX.out; go_wp2_with fail
 refine (rules_any r.mode r.depth r.bl r.bu r.qu r.rew r.win r.fin r.work W).mono ?_
 rintro e w1 ⟨rfl, hb1⟩; rw [show rulesE r.mode r.depth r.bl r.bu r.qu r.rew r.win r.fin r.work = 0 from HE.out]; have HX1 := Lib.hid (box_after hb1 HX.out); clear x0 x1; obtain ⟨x0, x1⟩ := box_cells HX1.out
 obtain ⟨D, hD⟩ := Int.eq_ofNat_of_zero_le (show 0 ≤ r.depth by have := HR.out.d0; omega)
 have HD := Lib.hid hD
 have hd0 : 1 ≤ D := by have := HR.out.d0; omega
 have hd1 : D ≤ 12 := by have := HR.out.d1; omega
 rw [hD] at x0
 have HXE : Hid ((#[.int .i64 r.mode, .int .i64 r.depth, .int .i64 r.bl, .int .i64 r.bu, .int .i64 r.qu, .int .u64 r.rew, .int .i64 r.win, .int .i64 r.fin, .int .u64 r.work] : Array Value) = #[.int .i64 r.mode, .int .i64 D, .int .i64 r.bl, .int .i64 r.bu, .int .i64 r.qu, .int .u64 r.rew, .int .i64 r.win, .int .i64 r.fin, .int .u64 r.work]) := by show _ = _; rw [hD]
 clear hD; go_wp2_with fail
 refine (frNew_any w1 D hd0 hd1).mono ?_
 rintro e w2 ⟨ta, tc, rfl, hrel2, hb2⟩; have HX2 := Lib.hid (box_after hb2 HX1.out); clear x0 x1
 go_upto_region 5 with (fail)
 have hbT := bnew (Below.refl w2.heap.size w2) (.cells #[.int .i64 D, .int .i64 0, .slice ta (newF D).left.length tc] 148); have HTB := Lib.hid (box_new w2 (.cells #[.int .i64 D, .int .i64 0, .slice ta (newF D).left.length tc] 148)); have HX3 := Lib.hid (box_after hbT HX2.out); have HTR := Lib.hid (numsR.keepB hrel2 hbT); have HB3 := Lib.hid (bnext HB.out (bnext hb1 (bnext hb2 hbT))); have HZ : Hid (w.heap.size ≤ w1.heap.size) := (bnext HB.out hb1).size; clear hb1 hb2 hbT hrel2 HX1 HX2; generalize w2.alloc (.cells #[.int .i64 D, .int .i64 0, .slice ta (newF D).left.length tc] 148) = w3 at *; generalize w2.heap.size = B2 at *; have HXD := HX3; rw [HXE.out] at HXD; have HRT := Lib.hid (okP (rootF_in (newF_ok D hd0 hd1)))
 have hroot : ∀ (X : World), Below w3.heap.size w3 X → Calls Tryz.prog 69 #[.agg #[.int .i64 D, .int .i64 0, .slice ta (newF D).left.length tc]] X fun e w' => e = .returned (.int .u64 (rootF (newF D) D)) ∧ Below X.heap.size X w' := fun X hX =>
   frRoot_any _ X (newF D) D (newF_ok D hd0 hd1) ta tc (numsR.keepB HTR.out hX)
 have HRC := Lib.hid hroot; obtain ⟨rt, hrt⟩ : ∃ x, rootF (newF D) D = x := ⟨_, rfl⟩; have HRE := Lib.hid hrt; rw [hrt] at HRT; clear hroot hrt
 go_region_held3 (fun w' => Below w3.heap.size w3 w' ∧ (∀ o, w'.cell? ⟨w.heap.size, o, none⟩ = (#[.int .i64 r.mode, .int .i64 D, .int .i64 r.bl, .int .i64 r.bu, .int .i64 r.qu, .int .u64 r.rew, .int .i64 r.win, .int .i64 r.fin, .int .u64 r.work] : Array Value)[o]?) ∧ (∀ o, w'.cell? ⟨B2, o, none⟩ = (#[.int .i64 D, .int .i64 0, .slice ta (newF D).left.length tc] : Array Value)[o]?))
   (first
     | with_reducible exact BkK2.drew (BkK2.of HXD.out HTB.out (Below.refl _ _))
     | with_reducible exact HKN.out
     | with_reducible exact HKR.out
     | with_reducible exact BkK2.of HXD.out HTB.out (bnew HKN.out.1 _)
     | with_reducible exact BkK2.of HXD.out HTB.out (bnew HKR.out.1 _)
     | with_reducible exact BkK2.of HXD.out HTB.out (bnew (bnew HKN.out.1 _) _)
     | with_reducible exact BkK2.of HXD.out HTB.out (bnew (bnew HKR.out.1 _) _))
   (first
     | (go_at_call 68
        have HBp := Lib.hid (‹Below w3.heap.size w3 _ ∧ _› : BkK2 #[.int .i64 r.mode, .int .i64 D, .int .i64 r.bl, .int .i64 r.bu, .int .i64 r.qu, .int .u64 r.rew, .int .i64 r.win, .int .i64 r.fin, .int .u64 r.work] #[.int .i64 D, .int .i64 0, .slice ta (newF D).left.length tc] w.heap.size B2 w3 _)
        refine (mkNew_any _).mono ?_
        rintro e wn ⟨sb, mb, rfl, hmk, l1, l2, hbn⟩; have HMK := Lib.hid hmk; have HL1 := Lib.hid (Nat.le_trans HBp.out.1.size l1); have HL2 := Lib.hid (Nat.le_trans HBp.out.1.size l2); have HKN := Lib.hid (BkK2.of HXD.out HTB.out (bnext HBp.out.1 hbn)); have HBN := Lib.hid hbn; clear hmk l1 l2)
     | (go_at_call 69
        have HBp := Lib.hid (‹Below w3.heap.size w3 _ ∧ _› : BkK2 #[.int .i64 r.mode, .int .i64 D, .int .i64 r.bl, .int .i64 r.bu, .int .i64 r.qu, .int .u64 r.rew, .int .i64 r.win, .int .i64 r.fin, .int .u64 r.work] #[.int .i64 D, .int .i64 0, .slice ta (newF D).left.length tc] w.heap.size B2 w3 _)
        refine (HRC.out _ HBp.out.1).mono ?_
        rw [HRE.out]; rintro e wr ⟨rfl, hbr⟩; have HKR := Lib.hid (BkK2.of HXD.out HTB.out (bnext HBp.out.1 hbr)); have HBR := Lib.hid hbr))
 have hbR : Below wr.heap.size wr ((wr.alloc (.cells #[.int .u64 rt] 24)).alloc (.cells #[.int .i64 r.mode, .int .i64 D, .int .i64 r.bl, .int .i64 r.bu, .int .i64 r.qu, .int .u64 r.rew, .int .i64 r.win, .int .i64 r.fin, .int .u64 r.work, .int .i64 D, .int .i64 0, .slice ta (newF D).left.length tc, .slice none 0 0, .pointer (some ⟨sb, 0, none⟩), .slice none 0 0, .int .u64 0, .slice (some ⟨wr.heap.size, 0, none⟩) 1 1, .slice none 0 0] 158)) := bnew (bnew (Below.refl _ _) _) _; have hbE : Below w3.heap.size w3 ((wr.alloc (.cells #[.int .u64 rt] 24)).alloc (.cells #[.int .i64 r.mode, .int .i64 D, .int .i64 r.bl, .int .i64 r.bu, .int .i64 r.qu, .int .u64 r.rew, .int .i64 r.win, .int .i64 r.fin, .int .u64 r.work, .int .i64 D, .int .i64 0, .slice ta (newF D).left.length tc, .slice none 0 0, .pointer (some ⟨sb, 0, none⟩), .slice none 0 0, .int .u64 0, .slice (some ⟨wr.heap.size, 0, none⟩) 1 1, .slice none 0 0] 158)) := bnext HKR.out.1 hbR; have hz := HKR.out.1.size
 have hat := poNew_mk HD.out rfl hbE HRE.out HRT.out (two_new wr (.cells #[.int .u64 rt] 24) (.cells #[.int .i64 r.mode, .int .i64 D, .int .i64 r.bl, .int .i64 r.bu, .int .i64 r.qu, .int .u64 r.rew, .int .i64 r.win, .int .i64 r.fin, .int .u64 r.work, .int .i64 D, .int .i64 0, .slice ta (newF D).left.length tc, .slice none 0 0, .pointer (some ⟨sb, 0, none⟩), .slice none 0 0, .int .u64 0, .slice (some ⟨wr.heap.size, 0, none⟩) 1 1, .slice none 0 0] 158)).1 HTR.out (HMK.out.keepB (bnext HBR.out hbR)) (two_new wr (.cells #[.int .u64 rt] 24) (.cells #[.int .i64 r.mode, .int .i64 D, .int .i64 r.bl, .int .i64 r.bu, .int .i64 r.qu, .int .u64 r.rew, .int .i64 r.win, .int .i64 r.fin, .int .u64 r.work, .int .i64 D, .int .i64 0, .slice ta (newF D).left.length tc, .slice none 0 0, .pointer (some ⟨sb, 0, none⟩), .slice none 0 0, .int .u64 0, .slice (some ⟨wr.heap.size, 0, none⟩) 1 1, .slice none 0 0] 158)).2 (by omega) HL1.out HL2.out hz
 have HAT := Lib.hid hat; have HBF := Lib.hid (bnext HB3.out hbE); have hz3 := HB3.out.size; have hl1 := HL1.out; have hl2 := HL2.out; clear hbE hbR hat; go_wp2_with fail; go_ret2
 refine ⟨wr.heap.size + 1, _, _, rfl, HAT.out, fun k hm => ?_, fun k hi => by have := hi.1; have := HZ.out; omega, HBF.out⟩
 rcases hm with e | e | e | e | e | e
 · omega
 · have e' : k = sb := e; omega
 · have e' : k = mb := e; omega
 · simp at e
 · have e' : wr.heap.size = k := by simpa using e
   omega
 · simp at e
end Go.Proofs.YtphacfkcifpobaaGreatDoor
