/- The state of a chain of the program: the transactions of a block. -/
import Derived.Test.YtphacfkcifpobaaGreatDoorPoC
import Derived.Test.YtphacfkcifpobaaGreatDoorM16
set_option maxRecDepth 100000
namespace Go.Proofs.YtphacfkcifpobaaGreatDoor
open Go.ChangeShapes Go.WideShapes Go.ChangeAt Go.RowKit Go.Sort
theorem txsW_app : ∀ (l m : List TxM) (s : PoM), txsW s (l ++ m) = txsW (txsW s l) m
 | [], _, _ => rfl
 | t :: l, m, s => txsW_app l m (perfW s t)
theorem txsE_app (r : RuM) : ∀ (l m : List TxM) (s : PoM), txsE r s l = 0 → txsE r s (l ++ m) = txsE r (txsW s l) m
 | [], _, _, _ => rfl
 | t :: l, m, s, h => by
   have h' : (if poCheckE r s t = 0 then (if perfE s t = 0 then txsE r (perfW s t) l else perfE s t) else poCheckE r s t) = 0 := h
   show (if poCheckE r s t = 0 then (if perfE s t = 0 then txsE r (perfW s t) (l ++ m) else perfE s t) else poCheckE r s t) = _
   split at h'
   · rename_i h1
     split at h'
     · rename_i h2
       rw [if_pos h1, if_pos h2]
       exact txsE_app r l m (perfW s t) h'
     · rename_i h2; exact absurd h' h2
   · rename_i h1; exact absurd h' h1
theorem feesL_app : ∀ (l m : List TxM) (f : Int), feesL f (l ++ m) = feesL (feesL f l) m
 | [], _, _ => rfl
 | t :: l, m, f => feesL_app l m (wrapU (f + t.fee))
theorem marksL_snoc (l : List TxM) (t : TxM) : marksL (l ++ [t]) = marksL l ++ t.marks := by unfold marksL; rw [List.flatMap_append]; simp
structure TxsK (r : RuM) (N : Nat) (s0 : PoM) (l : List TxM) (s : PoM) (m : List Int) : Prop where
 part : Part s0 s m
 ok : PoOK r s (N + 4 * l.length)
 err : txsE r s0 l = 0
 st : s = txsW s0 l
 mks : m = marksL l
 len : m.length ≤ 4 * l.length
theorem TxsK.zero {r : RuM} {N : Nat} {s0 : PoM} (h : PoOK r s0 N) : TxsK r N s0 [] s0 [] := ⟨Part.refl _, h, rfl, rfl, rfl, by simp⟩
theorem TxsK.next {r : RuM} {N : Nat} {s0 s : PoM} {l : List TxM} {m : List Int} (h : TxsK r N s0 l s m) {t : TxM} (hc : poCheckE r s t = 0) (he : perfE s t = 0) (hpos : ∀ o ∈ t.outs, 0 ≤ o.commit) : TxsK r N s0 (l ++ [t]) (perfW s t) (m ++ t.marks) := by
 refine ⟨perf_part h.part hc, ?_, ?_, ?_, ?_, ?_⟩
 · have := perf_ok h.ok hc hpos
   rw [List.length_append, List.length_singleton, Nat.mul_add]
   exact this
 · rw [txsE_app r l [t] s0 h.err, ← h.st]
   show (if poCheckE r s t = 0 then (if perfE s t = 0 then (0 : Int) else perfE s t) else poCheckE r s t) = 0
   rw [if_pos hc, if_pos he]
 · rw [txsW_app, ← h.st]; rfl
 · rw [marksL_snoc, ← h.mks]
 · have h1 := (marksB_nodup (validE_parts (poCheck_facts hc).1).1).1
   have h2 := h.len
   rw [List.length_append, List.length_append, List.length_singleton]; omega
theorem TxsK.check {r : RuM} {N : Nat} {s0 s : PoM} {l : List TxM} {m : List Int} (h : TxsK r N s0 l s m) {t : TxM} (rest : List TxM) (hc : poCheckE r s t ≠ 0) : txsE r s0 (l ++ t :: rest) = poCheckE r s t := by
 rw [txsE_app r l (t :: rest) s0 h.err, ← h.st]
 exact if_neg hc
theorem TxsK.perf {r : RuM} {N : Nat} {s0 s : PoM} {l : List TxM} {m : List Int} (h : TxsK r N s0 l s m) {t : TxM} (rest : List TxM) (hc : poCheckE r s t = 0) (he : perfE s t ≠ 0) : txsE r s0 (l ++ t :: rest) = perfE s t := by
 rw [txsE_app r l (t :: rest) s0 h.err, ← h.st]
 exact (if_pos hc).trans (if_neg he)
theorem blockE_bad {r : RuM} {s0 : PoM} {b : BlkM} (h : txsE r s0 b.txs ≠ 0) : blockE r s0 b = txsE r s0 b.txs := if_neg h
def BlkOut (p q : Nat) (I : Nat → Prop) (v : PoV) (na : Option Addr) (w : World) (r : RuM) (N : Nat) (s0 : PoM) (b : BlkM) (ta ba : Option Addr) (tc bc : Nat) (w' : World) : Prop :=
 ∃ (s' : PoM) (m' : List Int), Part s0 s' m' ∧ PoOK r s' (N + 400) ∧ m'.length ≤ 300 ∧ (blockE r s0 b = 0 → s' = blockW r s0 b ∧ m' = marksL b.txs) ∧ PoOut p q I v na w r s0 s' m' ta ba tc bc w'
theorem PoOK.more {r : RuM} {s : PoM} {n n' : Nat} (h : PoOK r s n) (hn : n ≤ n') : PoOK r s n' := ⟨h.tree, h.count, h.leaves, Nat.le_trans h.marks hn, h.up, Nat.le_trans h.book hn, h.hidden, h.roots⟩
theorem outs_pos {S : Nat → Prop} {w : World} {t : TxM} {ma oa pa : Option Addr} {mc oc pc : Nat} (h : TxIn S w t ma oa pa mc oc pc) : ∀ o ∈ t.outs, 0 ≤ o.commit := by
 intro o ho
 obtain ⟨j, hj, rfl⟩ := List.getElem_of_mem ho; obtain ⟨_, _, _, _, _, _, _, okj, _⟩ := outs_at h.outs j hj
 exact (okU_in okj).1
set_option maxHeartbeats 4000000 in
theorem poBlock_any (p q : Nat) (I : Nat → Prop) (w : World) (r : RuM) (hr : RuOK r) (s0 : PoM) (v : PoV) (ta na ba : Option Addr) (tc nc bc : Nat) (h : PoW p q I w r s0 s0 [] v ta na ba tc nc bc) (N : Nat) (ok : PoOK r s0 N) (hN : N ≤ 80000) (hpl : s0.past.length ≤ 100000) (S : Nat → Prop) (b : BlkM) (xa : Option Addr) (xc : Nat) (hb : BlkIn S w b xa xc) (hbl : b.txs.length ≤ 64) (hS : ∀ k, S k → ¬ PoMut p v k ∧ k ≠ q ∧ blkO na ≠ some k) :
   Calls Tryz.prog 192 #[.pointer (some ⟨p, 0, none⟩), .agg #[.int .u64 b.parent, .int .i64 b.height, .int .u64 b.miner, .int .u64 b.work, .int .u64 b.nonce, .slice xa b.txs.length xc], .pointer (some ⟨q, 0, none⟩)] w fun e w' => e = .returned (.int .i64 (blockE r s0 b)) ∧ BlkOut p q I v na w r N s0 b ta ba tc bc w' := by
 have hbA := bnew (Below.refl w.heap.size w) (.cells #[.int .u64 b.parent, .int .i64 b.height, .int .u64 b.miner, .int .u64 b.work, .int .u64 b.nonce, .slice xa b.txs.length xc] 177); have HX := Lib.hid (box_new w (.cells #[.int .u64 b.parent, .int .i64 b.height, .int .u64 b.miner, .int .u64 b.work, .int .u64 b.nonce, .slice xa b.txs.length xc] 177)); have HW := Lib.hid (h.keepB hbA)
 have HT : Hid (txsR.rel (fun k => S k ∧ k < w.heap.size) (w.alloc (.cells #[.int .u64 b.parent, .int .i64 b.height, .int .u64 b.miner, .int .u64 b.work, .int .u64 b.nonce, .slice xa b.txs.length xc] 177)) [.slice xa b.txs.length xc] b.txs) := txsR.keepB (txsR.bound hb.txs) hbA
 have HS0 : Hid (PoStep p q I v na w I v na (w.alloc (.cells #[.int .u64 b.parent, .int .i64 b.height, .int .u64 b.miner, .int .u64 b.work, .int .u64 b.nonce, .slice xa b.txs.length xc] 177))) := PoStep.below hbA; have HZ : Hid ((w.alloc (.cells #[.int .u64 b.parent, .int .i64 b.height, .int .u64 b.miner, .int .u64 b.work, .int .u64 b.nonce, .slice xa b.txs.length xc] 177)).heap.size = w.heap.size + 1) := World.size_alloc ..
 have HBX : Hid (¬ PoMut p v w.heap.size ∧ w.heap.size ≠ q ∧ blkO na ≠ some w.heap.size) := by
   refine ⟨fun hm => ?_, fun e => ?_, fun e => ?_⟩
   · have := h.at'.mut_lt _ hm; omega
   · have := box_lt h.bef; omega
   · obtain ⟨cur, hc⟩ := own_obj h.own e; have := box_lt hc; omega
 have HOK := Lib.hid ok; have HR := Lib.hid hr
 have HS : Hid (∀ k, (S k ∧ k < w.heap.size) → ¬ PoMut p v k ∧ k ≠ q ∧ blkO na ≠ some k) := fun k hk => hS k hk.1
 have HMI := Lib.hid hb.miner; clear hbA h hb ok hS hr
 go_enter Tryz.func192, Tryz.ntmps192
 go_upto_region 1 with (fail)
 generalize w.alloc (.cells #[.int .u64 b.parent, .int .i64 b.height, .int .u64 b.miner, .int .u64 b.work, .int .u64 b.nonce, .slice xa b.txs.length xc] 177) = W at *; obtain ⟨x0, x1⟩ := box_cells HX.out; go_wp2_with fail
 go_loopw [7, 17] (fun vf vi wr => ∃ (k : Nat) (s : PoM) (m : List Int) (I' : Nat → Prop) (v' : PoV) (a5 : Option Addr) (c5 : Nat), k ≤ b.txs.length ∧ vi = .int .i64 k ∧ vf = .int .u64 (feesL 0 (b.txs.take k)) ∧ Hid (TxsK r N s0 (b.txs.take k) s m) ∧ Hid (PoW p q I' wr r s0 s m v' ta a5 ba tc c5 bc) ∧ Hid (PoStep p q I v na W I' v' a5 wr)) (fun _ vi _ => b.txs.length - (intOf vi).toNat)
 case atStart => exact ⟨0, s0, [], I, v, na, nc, Nat.zero_le _, rfl, rfl, TxsK.zero HOK.out, HW, PoStep.refl _ _ _ _ _ _⟩
 case round =>
   obtain ⟨k, s, m, I', v', a5, c5, hk, rfl, rfl, HKK, HP, HSr⟩ := hrel
   have HSS : Hid (∀ k, (S k ∧ k < w.heap.size) → ¬ PoMut p v' k ∧ k ≠ q ∧ blkO a5 ≠ some k) := fun k hk => by
     refine ⟨fun hm => ?_, (HS.out k hk).2.1, fun e => ?_⟩
     · rcases HSr.out.turn k hm with h1 | h1
       · exact (HS.out k hk).1 h1
       · have := HZ.out; omega
     · rcases HSr.out.mm k e with h1 | h1
       · exact (HS.out k hk).2.2 h1
       · have := HZ.out; omega
   have hkl : (b.txs.take k).length = k := by rw [List.length_take]; omega
   by_cases hlt : k < b.txs.length
   · have HTr := Lib.hid (txsR.keep HT.out (HSr.out.kept.mono fun k _ hk => HS.out k hk))
     obtain ⟨bb, off, ma, oa, pa, mc, oc, pc, hxa, hbbl, ht, c0, c1, c2, c3, c4, c5', c6, c7, c8, c9⟩ := txs_at HTr.out k hlt; subst hxa
     have hsp : b.txs = b.txs.take k ++ b.txs[k] :: b.txs.drop (k + 1) := by
       have h1 := List.take_append_drop k b.txs; rw [List.drop_eq_getElem_cons hlt] at h1
       exact h1.symm
     have hsn : b.txs.take (k + 1) = b.txs.take k ++ [b.txs[k]] := List.take_succ_eq_append_getElem hlt; generalize b.txs[k] = t at *; have HSP := Lib.hid hsp; have HSN := Lib.hid hsn
     have hft : feesL 0 (b.txs.take (k + 1)) = wrapU (feesL 0 (b.txs.take k) + t.fee) := by rw [hsn, feesL_app]; rfl
     have HFT := Lib.hid hft
     have HKL : Hid (N + 4 * (b.txs.take k).length ≤ 80300 ∧ m.length ≤ 300) := by
       show _ ∧ _
       have h1 := HKK.out.len; rw [hkl] at h1 ⊢
       exact ⟨by omega, by omega⟩
     have HPL : Hid (s.past.length ≤ 100000) := by show _ ≤ _; rw [HKK.out.part.past]; exact hpl
     have HT1 := Lib.hid ht; have hpos := outs_pos ht; have HPOS := Lib.hid hpos; obtain ⟨fs, hfs⟩ : ∃ f, feesL 0 (b.txs.take k) = f := ⟨_, rfl⟩; rw [hfs] at HFT; generalize hlk : b.txs.take k = lk at *; clear hft hsp hsn ht hpos hlk; rw [hfs]; clear hfs
     go_upto_region 5 with (fail)
     have hbO := bnew (Below.refl wr.heap.size wr) (.cells #[.int .u64 t.anchor, .slice ma t.marks.length mc, .slice oa t.outs.length oc, .int .u64 t.dep, .int .u64 t.wd, .int .u64 t.fee, .int .u64 t.acc, .int .u64 t.nonce, .int .i64 t.exp, .slice pa t.proof.length pc] 181); have HOB := Lib.hid (box_new wr (.cells #[.int .u64 t.anchor, .slice ma t.marks.length mc, .slice oa t.outs.length oc, .int .u64 t.dep, .int .u64 t.wd, .int .u64 t.fee, .int .u64 t.acc, .int .u64 t.nonce, .int .i64 t.exp, .slice pa t.proof.length pc] 181)); have HP1 := Lib.hid (HP.out.keepB hbO); have HS1 := Lib.hid (HSr.out.trans (PoStep.below hbO)); have HTA := Lib.hid (HT1.out.keepB hbO)
     have HB1 : Hid (¬ PoMut p v' wr.heap.size ∧ wr.heap.size ≠ q ∧ blkO a5 ≠ some wr.heap.size) := by
       refine ⟨fun hm => ?_, fun e => ?_, fun e => ?_⟩
       · have := HP.out.at'.mut_lt _ hm; omega
       · have := box_lt HP.out.bef; omega
       · obtain ⟨cur, hc⟩ := own_obj HP.out.own e; have := box_lt hc; omega
     clear hbO HP HSr HT1 x0 x1 c0 c1 c2 c3 c4 c5' c6 c7 c8 c9 HTr hbbl; generalize wr.heap.size = B1 at *; generalize wr.alloc (.cells #[.int .u64 t.anchor, .slice ma t.marks.length mc, .slice oa t.outs.length oc, .int .u64 t.dep, .int .u64 t.wd, .int .u64 t.fee, .int .u64 t.acc, .int .u64 t.nonce, .int .i64 t.exp, .slice pa t.proof.length pc] 181) = w1 at *; obtain ⟨x0, x1⟩ := box_cells HOB.out; go_wp2_with fail
     refine (poCheck_any p I' w1 r s v' HP1.out.at' HR.out _ HKK.out.ok (by have := HKL.out.1; omega) HPL.out _ t ma oa pa mc oc pc HTA.out).mono ?_
     rintro e w2 ⟨rfl, hb2⟩; have HP2 := Lib.hid (HP1.out.keepB hb2); have HS2 := Lib.hid (HS1.out.trans (PoStep.below hb2)); have HT2 := Lib.hid (HTA.out.keepB hb2); have HO2 := Lib.hid (box_after hb2 HOB.out); clear hb2 x0 x1 HP1 HS1 HTA HOB
     by_cases hc : poCheckE r s t = 0
     · rw [hc]
       have HC := Lib.hid hc; clear hc; obtain ⟨x0, x1⟩ := box_cells HO2.out; go_wp2_with fail
       refine (perform_any p q I' w2 r s0 s m v' ta a5 ba tc c5 bc HP2.out _ HKK.out.ok (by have := HKL.out.1; omega) (by have := HKL.out.2; omega) _ t ma oa pa mc oc pc HT2.out HSS.out HC.out).mono ?_
       rintro e w3 ⟨rfl, I3, v3, a3, c3, hw3, hs3⟩; have HP3 := Lib.hid hw3; have HS3 := Lib.hid (HS2.out.trans hs3); have HO3 := Lib.hid (box_kept hs3.kept HO2.out HB1.out); clear hw3 hs3 x0 x1
       by_cases he : perfE s t = 0
       · rw [he]
         have HNX := Lib.hid (HKK.out.next HC.out he HPOS.out); clear he; obtain ⟨x0, x1⟩ := box_cells HO3.out; go_wp2_with fail
         go_roundw
         case rel => exact ⟨k + 1, perfW s t, m ++ t.marks, I3, v3, a3, c3, by omega, by go_num, by rw [HFT.out], by rw [HSN.out]; exact HNX, HP3, HS3⟩
         case measure => simp [intOf]; omega
       · have HBE : Hid (txsE r s0 b.txs = perfE s t) := by show _ = _; rw [HSP.out]; exact HKK.out.perf _ HC.out he
         have HBN : Hid (blockE r s0 b = perfE s t) := by show _ = _; rw [blockE_bad (by rw [HBE.out]; exact he), HBE.out]
         have HNE := Lib.hid he
         have z1 : (perfE s t == 0) = false := by rw [beq_eq_false_iff_ne]; exact he
         have z2 : (perfE s t != 0) = true := by rw [bne_iff_ne]; exact he
         obtain ⟨y, hy⟩ : ∃ y, perfE s t = y := ⟨_, rfl⟩; have HY := Lib.hid hy; rw [hy] at z1 z2 ⊢; clear hy he; go_wp2_with fail; go_ret
         exact ⟨ret_int (by rw [HBN.out, HY.out]), perfW s t, m ++ t.marks, perf_part HKK.out.part HC.out, (perf_ok HKK.out.ok HC.out HPOS.out).more (by have := hkl; omega), by have h1 := (marksB_nodup (validE_parts (poCheck_facts HC.out).1).1).1; have h2 := HKK.out.len; rw [List.length_append]; omega, fun h => absurd (HBN.out.symm.trans h) HNE.out, I3, v3, a3, c3, HP3.out, HS0.out.trans HS3.out⟩
     · have HBE : Hid (txsE r s0 b.txs = poCheckE r s t) := by show _ = _; rw [HSP.out]; exact HKK.out.check _ hc
       have HBN : Hid (blockE r s0 b = poCheckE r s t) := by show _ = _; rw [blockE_bad (by rw [HBE.out]; exact hc), HBE.out]
       have HNE := Lib.hid hc
       have z1 : (poCheckE r s t == 0) = false := by rw [beq_eq_false_iff_ne]; exact hc
       have z2 : (poCheckE r s t != 0) = true := by rw [bne_iff_ne]; exact hc
       obtain ⟨y, hy⟩ : ∃ y, poCheckE r s t = y := ⟨_, rfl⟩; have HY := Lib.hid hy; rw [hy] at z1 z2 ⊢; clear hy hc; go_wp2_with fail; go_ret
       exact ⟨ret_int (by rw [HBN.out, HY.out]), s, m, HKK.out.part, HKK.out.ok.more (by omega), by have := HKL.out.2; omega, fun h => absurd (HBN.out.symm.trans h) HNE.out, I', v', a5, c5, HP2.out, HS0.out.trans HS2.out⟩
   · obtain rfl : k = b.txs.length := by omega
     rw [List.take_length] at HKK ⊢; have HXr := Lib.hid (box_kept HSr.out.kept HX.out HBX.out); obtain ⟨x0, x1⟩ := box_cells HXr.out
     have HBE : Hid (blockE r s0 b = creditE s.book b.miner (wrapU (r.rew + feesL 0 b.txs))) := by show _ = _; unfold blockE; rw [if_pos HKK.out.err, ← HKK.out.st]
     have HBW : Hid (blockW r s0 b = ⟨s.tree, s.leaves, s.marks, creditL s.book b.miner (wrapU (r.rew + feesL 0 b.txs)), s.hidden, s.roots, s.past⟩) := by show blockW r s0 b = _; unfold blockW; rw [← HKK.out.st]
     have HOF : Hid (okU (wrapU (r.rew + feesL 0 b.txs))) := wrapU_ok _; generalize feesL 0 b.txs = fs at *
     have HBL : Hid (s.book.length ≤ 100000) := by show _ ≤ _; have h1 := HKK.out.ok.book; omega
     obtain ⟨bk, hbk⟩ : ∃ x, creditL s.book b.miner (IntKind.u64.wrap (r.rew + fs)) = x := ⟨_, rfl⟩; obtain ⟨er, her⟩ : ∃ x, creditE s.book b.miner (IntKind.u64.wrap (r.rew + fs)) = x := ⟨_, rfl⟩; have HBE2 : Hid (blockE r s0 b = er) := HBE.out.trans her
     have HBW2 : Hid (blockW r s0 b = ⟨s.tree, s.leaves, s.marks, bk, s.hidden, s.roots, s.past⟩) := by show _ = _; rw [HBW.out, ← hbk]
     have HBK := Lib.hid hbk; have HER := Lib.hid her; clear HBE HBW hbk her
     go_upto_region 13 with (fail)
     go_cut [12, 13] from 14 (fun v12 v13 wc => ∃ b a c, v12 = .pointer (some ⟨b, 0, none⟩) ∧ v13 = .int .i64 er ∧ Hid (wc.heap[b]? = some (.cells #[.slice a bk.length c] 155 (0, 0))) ∧ Hid (accsR.rel (fun k => wr.heap.size ≤ k) wc [.slice a bk.length c] bk) ∧ Hid (Below wr.heap.size wr wc))
     case first =>
       go_region_held3 (fun w' => Below wr.heap.size wr w' ∧ (∀ o, w'.cell? ⟨p, o, none⟩ = (poCells r s v')[o]?) ∧ (∀ o, w'.cell? ⟨w.heap.size, o, none⟩ = (#[.int .u64 b.parent, .int .i64 b.height, .int .u64 b.miner, .int .u64 b.work, .int .u64 b.nonce, .slice xa b.txs.length xc] : Array Value)[o]?))
         (first
           | with_reducible exact BkK2.drew (BkK2.of HP.out.at'.cell HXr.out (Below.refl _ _))
           | with_reducible exact HK1.out
           | with_reducible exact BkK2.of HP.out.at'.cell HXr.out (bnew HK1.out.1 _)
           | exact BkK2.of HP.out.at'.cell HXr.out (below_put HK1.out.1 (Nat.le_refl _) _ HK1.out.1.size)
           | with_reducible exact BkK2.drew (BkK2.of HP.out.at'.cell HXr.out (bnew (Below.refl _ _) _)))
         (first
           | (go_at_call 257; have HBp := Lib.hid (‹Below wr.heap.size wr _ ∧ _› : BkK2 (poCells r s v') #[.int .u64 b.parent, .int .i64 b.height, .int .u64 b.miner, .int .u64 b.work, .int .u64 b.nonce, .slice xa b.txs.length xc] p w.heap.size wr _)
              refine (credit_any I' _ v'.ba v'.bc s.book (HP.out.keepB HBp.out.1).at'.data.book HBL.out HKK.out.ok.up b.miner (IntKind.u64.wrap (r.rew + fs)) HMI.out HOF.out).mono ?_
              rw [HBK.out, HER.out]; rintro e w5 ⟨a7, c7, rfl, hr5, hb5⟩; have HK1 := Lib.hid (BkK2.of HP.out.at'.cell HXr.out (bnext HBp.out.1 hb5)); have HR5 := Lib.hid hr5; clear hr5
              first
                | (have hqA : w5.heap[wr.heap.size]? = _ := box_after hb5 (box_new wr (.cells #[.slice none 0 0] 155)); obtain ⟨k0, k1⟩ := box_cells hqA; have HQ := Lib.hid hqA; clear hqA)
                | skip))
       · have HBF := Lib.hid (box_new w5 (.cells #[.slice a7 bk.length c7] 155))
         have HRF := Lib.hid ((accsR).mono ((accsR).keepB HR5.out (bnew (Below.refl _ _) (.cells #[.slice a7 bk.length c7] 155))) (S' := fun k => wr.heap.size ≤ k) fun k _ h => h)
         have HBel := Lib.hid (bnew HK1.out.1 (.cells #[.slice a7 bk.length c7] 155)); go_wp2_with fail
         go_meet
         case rel => exact ⟨w5.heap.size, a7, c7, rfl, rfl, HBF, HRF, HBel⟩
       · have HBF : Hid ((w5.setCell ⟨wr.heap.size, 0, none⟩ (.slice a7 bk.length c7)).heap[wr.heap.size]? = some (.cells #[.slice a7 bk.length c7] 155 (0, 0))) := box_set HQ.out
         have HRF := Lib.hid ((accsR).mono ((accsR).keep HR5.out ((kept_one w5 wr.heap.size 0 (.slice a7 bk.length c7)).mono fun k _ h => by have h' : (wr.alloc (.cells #[.slice none 0 0] 155)).heap.size ≤ k := h; rw [World.size_alloc] at h'; show k ≠ _; omega)) (S' := fun k => wr.heap.size ≤ k) fun k _ h => by have h' : (wr.alloc (.cells #[.slice none 0 0] 155)).heap.size ≤ k := h; rw [World.size_alloc] at h'; show _ ≤ k; omega)
         have HBel := Lib.hid (below_put (i := 0) HK1.out.1 (q := wr.heap.size) (Nat.le_refl _) (.slice a7 bk.length c7) HK1.out.1.size); go_wp2_with fail
         go_meet
         case rel => exact ⟨wr.heap.size, a7, c7, rfl, rfl, HBF, HRF, HBel⟩
     case rest =>
       obtain ⟨b8, a8, c8, rfl, rfl, HB8, HR8, HBe⟩ := hcut; have HPc := Lib.hid (HP.out.keepB HBe.out); have hg9 := HPc.out.at'.grow (B := wr.heap.size) HP.out.at'.mut_lt
       have hr9 := (accsR).mono HR8.out (S' := fun k => I' k ∨ (wr.heap.size ≤ k ∧ k < wc.heap.size)) fun k hk h => .inr ⟨h, hk⟩
       have hat9 := hg9.setBook hr9
       have hk9 : Kept (fun k => ¬ PoMut p v' k) wr (wc.setCell ⟨p, 14, none⟩ (.slice a8 bk.length c8)) :=
         (Kept.of_below HBe.out).trans (kept_one wc p 14 _) fun k _ h e => h (.inl e)
       obtain ⟨hw9, hs9⟩ := HP.out.step hat9 hk9 (fun _ h => .inl h) (fun _ h => .inl h) (fun k h => h.elim .inl fun h => .inr h.1)
       have HP9 := Lib.hid hw9; have HS9 := Lib.hid (HSr.out.trans hs9); obtain ⟨k0, k1⟩ := box_cells HB8.out; obtain ⟨y0, y1⟩ := box_cells HPc.out.at'.cell
       simp only [poCells] at y0
       clear hg9 hr9 hat9 hk9 hw9 hs9
       by_cases hz : er = 0
       · subst hz
         have HPO : Hid (PoOK r (blockW r s0 b) (N + 400)) := by
           show PoOK _ _ _
           rw [HBW2.out, ← HBK.out]
           exact ⟨HKK.out.ok.tree, HKK.out.ok.count, HKK.out.ok.leaves, by have h1 := HKK.out.ok.marks; show s.marks.length ≤ _; omega, creditL_up HKK.out.ok.up _ _, by have h1 := HKK.out.ok.book; have h2 := creditL_len s.book b.miner (IntKind.u64.wrap (r.rew + fs)); show (creditL _ _ _).length ≤ _; omega, HKK.out.ok.hidden, HKK.out.ok.roots⟩
         have HPP : Hid (Part s0 (blockW r s0 b) m) := by
           show Part _ _ _
           rw [HBW2.out]
           exact ⟨HKK.out.part.leaves, HKK.out.part.marks, HKK.out.part.nodup, HKK.out.part.fresh, HKK.out.part.roots, HKK.out.part.past⟩
         go_wp2_with fail; go_ret; rw [HBE2.out]
         exact ⟨rfl, blockW r s0 b, m, HPP.out, HPO.out, by have h2 := HKK.out.len; omega, fun _ => ⟨rfl, HKK.out.mks⟩, _, _, a5, c5, by rw [HBW2.out]; exact HP9.out, HS0.out.trans HS9.out⟩
       · have z1 : (er == 0) = false := by rw [beq_eq_false_iff_ne]; exact hz
         have z2 : (er != 0) = true := by rw [bne_iff_ne]; exact hz
         have HNE := Lib.hid hz; have HSF := Lib.hid (HS0.out.trans (HSr.out.trans (PoStep.below (p := p) (q := q) (I := I') (v := v') (ma := a5) HBe.out))); clear hz; go_wp2_with fail; go_ret
         exact ⟨ret_int HBE2.out.symm, s, m, HKK.out.part, HKK.out.ok.more (by omega), by have h2 := HKK.out.len; omega, fun h => absurd (HBE2.out.symm.trans h) HNE.out, I', v', a5, c5, HPc.out, HSF.out⟩
end Go.Proofs.YtphacfkcifpobaaGreatDoor
/- The state of a chain of the program: restore. -/
namespace Go.Proofs.YtphacfkcifpobaaGreatDoor
open Go.ChangeShapes Go.WideShapes Go.ChangeAt Go.RowKit Go.Sort
set_option maxHeartbeats 4000000 in
theorem restore_any (p : Nat) (I : Nat → Prop) (w : World) (r : RuM) (s : PoM) (v : PoV) (h : PoAt p I w r s v) (b : BefM) (ln : Nat) (hln : b.leaves = ln) (hll : ln ≤ s.leaves.length) (hs1 : s.leaves.length ≤ 1000000) (hs2 : s.marks.length ≤ 1000000000) (hs3 : b.marks.length ≤ 1000000) (ta na ba : Option Addr) (tc nc bc : Nat) (htr : numsR.rel I w [.slice ta b.tree.left.length tc] b.tree.left) (hbk : accsR.rel I w [.slice ba b.book.length bc] b.book) (S : Nat → Prop) (hmk : numsR.rel S w [.slice na b.marks.length nc] b.marks) (hS : ∀ k, S k → ¬ PoMut p v k) (hhd : okU b.hidden) :
   Calls Tryz.prog 193 #[.pointer (some ⟨p, 0, none⟩), .agg #[.int .i64 b.tree.depth, .int .i64 b.tree.count, .slice ta b.tree.left.length tc, .int .i64 (ln : Nat), .slice na b.marks.length nc, .slice ba b.book.length bc, .int .u64 b.hidden]] w fun e w' => e = .returned (.tuple #[]) ∧ PoAt p I w' r (restW s b) { v with ta := ta, tc := tc, ba := ba, bc := bc } ∧ Kept (fun k => ¬ PoMut p v k) w w' := by
 have hbA := bnew (Below.refl w.heap.size w) (.cells #[.int .i64 b.tree.depth, .int .i64 b.tree.count, .slice ta b.tree.left.length tc, .int .i64 (ln : Nat), .slice na b.marks.length nc, .slice ba b.book.length bc, .int .u64 b.hidden] 300); have HX := Lib.hid (box_new w (.cells #[.int .i64 b.tree.depth, .int .i64 b.tree.count, .slice ta b.tree.left.length tc, .int .i64 (ln : Nat), .slice na b.marks.length nc, .slice ba b.book.length bc, .int .u64 b.hidden] 300)); have HP := Lib.hid (h.keepB hbA); have HTR := Lib.hid (numsR.keepB htr hbA); have HBK := Lib.hid ((accsR).keepB hbk hbA); have HMK := Lib.hid (numsR.keepB hmk hbA)
 have HK0 : Hid (Kept (fun k => ¬ PoMut p v k) w (w.alloc (.cells #[.int .i64 b.tree.depth, .int .i64 b.tree.count, .slice ta b.tree.left.length tc, .int .i64 (ln : Nat), .slice na b.marks.length nc, .slice ba b.book.length bc, .int .u64 b.hidden] 300))) := Kept.of_below hbA
 have HBX : Hid (¬ PoMut p v w.heap.size) := fun hm => by have := h.mut_lt _ hm; omega
 have HSS := Lib.hid hS; have HHD := Lib.hid hhd
 have HRW : Hid (restW s b = ⟨b.tree, s.leaves.take ln, remW s.marks b.marks, b.book, b.hidden, s.roots, s.past⟩) := by show PoM.mk _ _ _ _ _ _ _ = _; rw [hln, Int.toNat_natCast]
 clear hbA h htr hbk hmk hS hhd hln
 go_enter Tryz.func193, Tryz.ntmps193
 go_upto_region 1 with (fail)
 generalize w.alloc (.cells #[.int .i64 b.tree.depth, .int .i64 b.tree.count, .slice ta b.tree.left.length tc, .int .i64 (ln : Nat), .slice na b.marks.length nc, .slice ba b.book.length bc, .int .u64 b.hidden] 300) = W at *; have x0 := box_regrown HX.out; have y0 := box_regrown HP.out.cell
 simp only [poCells] at y0
 refine wp_region_quiet_tail 6 (by kernel_rfl) (by kernel_rfl) ?_
 simp only [List.take_succ_cons, List.take_zero, List.drop_succ_cons, List.drop_zero]
 repeat (first | go_big_quiet_step (fail) | quiet_step (fail))
 refine wpQuiet_nil ?_
 intro wq hw'
 obtain ⟨⟨dq, osq⟩, hw''⟩ := hw'; have hbwq := below_regrown W dq osq; rw [← hw''] at hbwq; clear hw'' x0 y0; have HP1 := Lib.hid (HP.out.keepB hbwq); have HM1 := Lib.hid (numsR.keepB HMK.out hbwq)
 have HK1 : Hid (Kept (fun k => ¬ PoMut p v k) W wq) := Kept.of_below hbwq
 clear hbwq; go_wp2_with fail
 refine (remove_any v.sb v.mb S wq s.marks HP1.out.data.marks na nc b.marks HM1.out hs3 hs2 (fun hh => HSS.out _ hh (.inr (.inr (.inl rfl))))).mono ?_
 rintro e w2 ⟨rfl, hm2, hk2⟩; have HP2 := Lib.hid (HP1.out.marksTo hm2 hk2)
 have HK2 : Hid (Kept (fun k => ¬ PoMut p v k) W w2) := HK1.out.trans (hk2.mono (S' := fun k => ¬ PoMut p v k) fun k _ hm e => hm (.inr (.inr (.inl e)))) fun _ _ h => h
 obtain ⟨mk, hmk⟩ : ∃ x, remW s.marks b.marks = x := ⟨_, rfl⟩; rw [hmk] at HP2 HRW; clear hm2 hk2 hmk HP1 HM1 HK1; have HX2 := Lib.hid (box_kept HK2.out HX.out HBX.out); obtain ⟨x0, x1⟩ := box_cells HX2.out; obtain ⟨y0, y1⟩ := box_cells HP2.out.cell
 simp only [poCells] at y0
 go_upto_region 3 with (fail)
 have hfr : ∀ k, I k → ¬ PoMut p v k := fun k hi hm => HP.out.free k hm hi
 have hat3 := HP2.out.setTree (numsR.keep HTR.out (HK2.out.mono fun k _ => hfr k))
 have hk3 : Kept (fun k => ¬ PoMut p v k) W (w2.setCells p 9 [.int .i64 b.tree.depth, .int .i64 b.tree.count, .slice ta b.tree.left.length tc]) := HK2.out.trans (kept_cells w2 (q := p) (S := fun k => ¬ PoMut p v k) (fun h => h (.inl rfl)) _ 9) fun _ _ h => h
 obtain ⟨w3, hwf⟩ : ∃ wf, wf = w2.setCells p 9 [.int .i64 b.tree.depth, .int .i64 b.tree.count, .slice ta b.tree.left.length tc] := ⟨_, rfl⟩; rw [← hwf] at hat3 hk3
 simp only [World.setCells, Nat.reduceAdd] at hwf
 rw [← hwf]; have HP3 := Lib.hid hat3; have HK3 := Lib.hid hk3; clear hwf hat3 hk3 x0 x1 y0 y1 HP2 HX2; have HX3 := Lib.hid (box_kept HK3.out HX.out HBX.out); have x0 := box_regrown HX3.out; have y0 := box_regrown HP3.out.cell
 simp only [poCells] at y0
 have hcap : s.leaves.length ≤ v.lc := (sliceR.lens HP3.out.data.leaves.slice).2.1; have hnil := (sliceR.lens HP3.out.data.leaves.slice).2.2.2
 have j0 : (0 : Int) ≤ (ln : Int) := by omega
 have j1 : (ln : Int) ≤ (s.leaves.length : Int) := by omega
 have j2 : ln ≤ v.lc := by have h' : s.leaves.length ≤ v.lc := hcap; omega
 go_cut [4] from 5 (fun v4 wc => Hid (PoAt p I wc r ⟨b.tree, s.leaves.take ln, mk, s.book, s.hidden, s.roots, s.past⟩ { v with ta := ta, tc := tc }) ∧ Hid (Kept (fun k => ¬ PoMut p v k) W wc))
 case first =>
   cases hla : v.la with
   | none =>
     have hc0 : v.lc = 0 := hnil hla
     have hl0 : s.leaves.length = 0 := by omega
     have hn0 : ln = 0 := by omega
     subst hn0; rw [hla, hc0, hl0] at y0
     refine wp_region_quiet_tail 8 (by kernel_rfl) (by kernel_rfl) ?_
     simp only [List.take_succ_cons, List.take_zero, List.drop_succ_cons, List.drop_zero]
     repeat (first | go_big_quiet_step (fail) | quiet_step (fail))
     refine wpQuiet_nil ?_
     intro w4 hw'
     obtain ⟨⟨dq, osq⟩, hw''⟩ := hw'; have hbw4 := below_regrown w3 dq osq; rw [← hw''] at hbw4; clear hw'' x0 y0; have HP4 := Lib.hid (HP3.out.keepB hbw4)
     have HK4 : Hid (Kept (fun k => ¬ PoMut p v k) W w4) := HK3.out.trans (Kept.of_below (S := fun k => ¬ PoMut p v k) hbw4) fun _ _ h => h
     have HY := Lib.hid HP4.out.cell; obtain ⟨y0, y1⟩ := box_cells HY.out; have HP5 := Lib.hid (HP4.out.cutLeaves 0 hll)
     have HK5 : Hid (Kept (fun k => ¬ PoMut p v k) W (w4.setCell ⟨p, 12, none⟩ (.slice v.la 0 v.lc))) := HK4.out.trans (kept_one w4 p 12 _) fun k _ h e => h (.inl e)
     have HEQ : Hid (Value.slice v.la 0 v.lc = .slice none 0 0) := by show _ = _; rw [hla, hc0]
     clear hl0 hc0 hla hnil hcap j1 j2 hll; go_wp2_with fail
     go_meet
     case rel => rw [← HEQ.out]; exact ⟨HP5, HK5⟩
   | some ad =>
     rw [hla] at y0
     refine wp_region_quiet_tail 8 (by kernel_rfl) (by kernel_rfl) ?_
     simp only [List.take_succ_cons, List.take_zero, List.drop_succ_cons, List.drop_zero]
     repeat (first | go_big_quiet_step (fail) | quiet_step (fail))
     refine wpQuiet_nil ?_
     intro w4 hw'
     obtain ⟨⟨dq, osq⟩, hw''⟩ := hw'; have hbw4 := below_regrown w3 dq osq; rw [← hw''] at hbw4; clear hw'' x0 y0; have HP4 := Lib.hid (HP3.out.keepB hbw4)
     have HK4 : Hid (Kept (fun k => ¬ PoMut p v k) W w4) := HK3.out.trans (Kept.of_below (S := fun k => ¬ PoMut p v k) hbw4) fun _ _ h => h
     obtain ⟨y0, y1⟩ := box_cells HP4.out.cell; have HP5 := Lib.hid (HP4.out.cutLeaves ln hll)
     have HK5 : Hid (Kept (fun k => ¬ PoMut p v k) W (w4.setCell ⟨p, 12, none⟩ (.slice v.la ln v.lc))) := HK4.out.trans (kept_one w4 p 12 _) fun k _ h e => h (.inl e)
     go_wp2_with fail
     go_meet
     case rel => rw [← hla]; exact ⟨HP5, HK5⟩
 case rest =>
   obtain ⟨HP6, HK6⟩ := hcut; clear x0 y0 HX3 HP3 HK3 hcap hnil j0 j1 j2; have HX6 := Lib.hid (box_kept HK6.out HX.out HBX.out); obtain ⟨x0, x1⟩ := box_cells HX6.out; obtain ⟨y0, y1⟩ := box_cells HP6.out.cell
   simp only [poCells] at y0
   go_upto_region 5 with (fail)
   have hat7 := HP6.out.setBook ((accsR).keep HBK.out (HK6.out.mono fun k _ => hfr k))
   have hk7 : Kept (fun k => ¬ PoMut p v k) W (wc.setCell ⟨p, 14, none⟩ (.slice ba b.book.length bc)) := HK6.out.trans (kept_one wc p 14 _) fun k _ h e => h (.inl e)
   generalize wc.setCell ⟨p, 14, none⟩ (.slice ba b.book.length bc) = w7 at *; have HP7 := Lib.hid hat7; have HK7 := Lib.hid hk7; clear hat7 hk7 x0 x1 y0 y1; have HX7 := Lib.hid (box_kept HK7.out HX.out HBX.out); obtain ⟨x0, x1⟩ := box_cells HX7.out; obtain ⟨y0, y1⟩ := box_cells HP7.out.cell
   simp only [poCells] at y0
   have HP8 := Lib.hid (HP7.out.setHidden b.hidden HHD.out)
   have HK8 : Hid (Kept (fun k => ¬ PoMut p v k) w (w7.setCell ⟨p, 15, none⟩ (.int .u64 b.hidden))) := (HK0.out.trans HK7.out fun k _ h => h).trans (kept_one w7 p 15 _) fun k _ h e => h (.inl e)
   go_wp2_with fail
   go_end0
   exact ⟨rfl, by rw [HRW.out]; exact HP8.out, HK8.out⟩
end Go.Proofs.YtphacfkcifpobaaGreatDoor
