/- The state of a chain of the program: perform. -/
import Derived.Test.YtphacfkcifpobaaGreatDoorM16
set_option maxRecDepth 100000
namespace Go.Proofs.YtphacfkcifpobaaGreatDoor
open Go.ChangeShapes Go.WideShapes Go.ChangeAt Go.RowKit Go.Sort
abbrev outK (s : PoM) (t : TxM) (k : Nat) : PoM := ⟨appAll s.tree ((commitsT t).take k), s.leaves ++ (commitsT t).take k, addS s.marks t.marks, s.book, s.hidden, s.roots, s.past⟩
def PoOut (p q : Nat) (I : Nat → Prop) (v : PoV) (na : Option Addr) (w : World) (r : RuM) (s0 s' : PoM) (m' : List Int) (ta ba : Option Addr) (tc bc : Nat) (w' : World) : Prop :=
 ∃ (I' : Nat → Prop) (v' : PoV) (na' : Option Addr) (nc' : Nat), PoW p q I' w' r s0 s' m' v' ta na' ba tc nc' bc ∧ PoStep p q I v na w I' v' na' w'
set_option maxHeartbeats 4000000 in
theorem perform_any (p q : Nat) (I : Nat → Prop) (w : World) (r : RuM) (s0 s : PoM) (m : List Int) (v : PoV) (ta na ba : Option Addr) (tc nc bc : Nat) (h : PoW p q I w r s0 s m v ta na ba tc nc bc) (N : Nat) (ok : PoOK r s N) (hN : N ≤ 90000) (hll : m.length ≤ 1000) (S : Nat → Prop) (t : TxM) (ma oa pa : Option Addr) (mc oc pc : Nat) (ht : TxIn S w t ma oa pa mc oc pc) (hS : ∀ k, S k → ¬ PoMut p v k ∧ k ≠ q ∧ blkO na ≠ some k) (hc : poCheckE r s t = 0) :
   Calls Tryz.prog 256 #[.pointer (some ⟨p, 0, none⟩), .agg #[.int .u64 t.anchor, .slice ma t.marks.length mc, .slice oa t.outs.length oc, .int .u64 t.dep, .int .u64 t.wd, .int .u64 t.fee, .int .u64 t.acc, .int .u64 t.nonce, .int .i64 t.exp, .slice pa t.proof.length pc], .pointer (some ⟨q, 0, none⟩)] w fun e w' => e = .returned (.int .i64 (perfE s t)) ∧ PoOut p q I v na w r s0 (perfW s t) (m ++ t.marks) ta ba tc bc w' := by
 have hbA := bnew (Below.refl w.heap.size w) (.cells #[.int .u64 t.anchor, .slice ma t.marks.length mc, .slice oa t.outs.length oc, .int .u64 t.dep, .int .u64 t.wd, .int .u64 t.fee, .int .u64 t.acc, .int .u64 t.nonce, .int .i64 t.exp, .slice pa t.proof.length pc] 181); have HX := Lib.hid (box_new w (.cells #[.int .u64 t.anchor, .slice ma t.marks.length mc, .slice oa t.outs.length oc, .int .u64 t.dep, .int .u64 t.wd, .int .u64 t.fee, .int .u64 t.acc, .int .u64 t.nonce, .int .i64 t.exp, .slice pa t.proof.length pc] 181)); have HW := Lib.hid (h.keepB hbA); have HT := Lib.hid (ht.keepB hbA); have HS0 : Hid (PoStep p q I v na w I v na (w.alloc (.cells #[.int .u64 t.anchor, .slice ma t.marks.length mc, .slice oa t.outs.length oc, .int .u64 t.dep, .int .u64 t.wd, .int .u64 t.fee, .int .u64 t.acc, .int .u64 t.nonce, .int .i64 t.exp, .slice pa t.proof.length pc] 181))) := PoStep.below hbA
 have HBX : Hid (¬ PoMut p v w.heap.size ∧ w.heap.size ≠ q ∧ blkO na ≠ some w.heap.size) := by
   refine ⟨fun hm => ?_, fun e => ?_, fun e => ?_⟩
   · have := h.at'.mut_lt _ hm; omega
   · have := box_lt h.bef; omega
   · obtain ⟨cur, hc⟩ := own_obj h.own e; have := box_lt hc; omega
 have HOK := Lib.hid ok; have HS := Lib.hid hS; obtain ⟨hv, hfr, hdb, hle⟩ := poCheck_facts hc; obtain ⟨hml, hnd⟩ := marksB_nodup (validE_parts hv).1; have hol : t.outs.length ≤ 4 := (validE_facts hv).2.1; have HV := Lib.hid hv; have HE0 := Lib.hid (addE_zero hfr hnd); have HDB := Lib.hid hdb; have HLE := Lib.hid hle; clear hbA h ht ok hS hfr hnd hdb hv hle hc
 go_enter Tryz.func256, Tryz.ntmps256
 go_upto_region 1 with (fail)
 generalize w.alloc (.cells #[.int .u64 t.anchor, .slice ma t.marks.length mc, .slice oa t.outs.length oc, .int .u64 t.dep, .int .u64 t.wd, .int .u64 t.fee, .int .u64 t.acc, .int .u64 t.nonce, .int .i64 t.exp, .slice pa t.proof.length pc] 181) = W at *; have x0 := box_regrown HX.out; have y0 := box_regrown HW.out.at'.cell
 simp only [poCells] at y0
 refine wp_region_quiet_tail 6 (by kernel_rfl) (by kernel_rfl) ?_
 simp only [List.take_succ_cons, List.take_zero, List.drop_succ_cons, List.drop_zero]
 repeat (first | go_big_quiet_step (fail) | quiet_step (fail))
 refine wpQuiet_nil ?_
 intro wq hw'
 obtain ⟨⟨dq, osq⟩, hw''⟩ := hw'; have hbwq := below_regrown W dq osq; rw [← hw''] at hbwq; clear hw'' x0 y0; have HWq := Lib.hid (HW.out.keepB hbwq); have HTq := Lib.hid (HT.out.keepB hbwq); have HSq : Hid (PoStep p q I v na W I v na wq) := PoStep.below hbwq; clear hbwq; go_wp2_with fail
 refine (add_any v.sb v.mb _ wq s.marks HWq.out.at'.data.marks ma mc t.marks HTq.out.marks (by omega) (by have := HOK.out.marks; omega) (fun hh => (HS.out _ hh).1 (.inr (.inr (.inl rfl))))).mono ?_
 rintro e w2 ⟨rfl, hm2, hk2⟩; have e1 : addW s.marks t.marks = addS s.marks t.marks := if_pos HE0.out; rw [e1] at hm2; rw [HE0.out]
 obtain ⟨hw2, hs2⟩ := HWq.out.step (HWq.out.at'.marksTo hm2 hk2) (hk2.mono fun k _ hm e => hm (.inr (.inr (.inl e)))) (fun _ h => .inl h) (fun _ h => h) (fun _ h => .inl h)
 have HS2 := Lib.hid (HSq.out.trans hs2); have HW2 := Lib.hid hw2
 have HT2 := Lib.hid (HT.out.keep (HS2.out.kept.mono fun k _ hk => HS.out k hk))
 have HX2 := Lib.hid (box_kept HS2.out.kept HX.out HBX.out); clear e1 hm2 hk2 hw2 hs2 HWq HTq HSq HW; have ho2 := HW2.out.own; obtain ⟨x0, x1⟩ := box_cells HX2.out; obtain ⟨y0, y1⟩ := box_cells HW2.out.bef; have HT2m := Lib.hid HT2.out.marks
 go_upto_region 4 with (fail)
 go_cut [7] from 8 (fun v7 wc => ∃ a5 c5, Hid (PoW p q I wc r s0 (outK s t 0) (m ++ t.marks) v ta a5 ba tc c5 bc) ∧ Hid (PoStep p q I v na W I v a5 wc))
 case first =>
   go_region_law (first
     | (refine step_append_rel (r := u64R) (base := 0) (v := .slice na m.length nc) (u := .slice ma t.marks.length mc) (S := fun _ => False) rfl _ _ rfl Tryz.etyNums rfl rfl (Own.keepB ho2 (Below.refl _ _).drew) (Src.plain (Plain.int .u64) (Src.of_slice (numsR.keepB HT2m.out (Below.refl _ _).drew))) (fun _ _ h => h.elim) (fun _ _ h => h) (by unfold maxLen; omega) (by omega) (Nat.zero_le _) ?_
        intro v5 w5 ho5 hk5 hl5
        obtain ⟨a5, c5, rfl, -, -⟩ := own_form ho5; have HO5 := Lib.hid ho5
        have hk5' : Kept (fun k => blkO na ≠ some k) w2 w5 := (Kept.of_below ((Below.refl w2.heap.size w2).drew)).trans hk5 fun k _ h => by rw [own_blk]; exact h
        have hl5' : (Value.slice a5 (m ++ t.marks).length c5).ownBlock = blkO na ∨ (Value.slice a5 (m ++ t.marks).length c5).ownBlock = some w2.heap.size := by rw [own_blk na] at hl5; exact hl5
        have HK5 := Lib.hid hk5'; have HL5 := Lib.hid hl5'; obtain ⟨z0, z1⟩ := box_cells (box_kept hk5' HW2.out.bef HW2.out.row_q); clear ho5 hk5 hl5 hk5' hl5'))
   all_goals
     obtain ⟨a6, c6, e6, hw6, hs6⟩ := HW2.out.marksTo HO5.out HK5.out HL5.out
     simp only [Value.slice.injEq, true_and] at e6
     obtain ⟨rfl, rfl⟩ := e6; rw [List.length_append] at hw6 hs6; have HW6 := Lib.hid hw6; have HS6 := Lib.hid (HS2.out.trans hs6); clear hw6 hs6; go_wp2_with fail
     go_meet
     case rel =>
       refine ⟨a5, c5, ?_, HS6⟩
       have e0 : outK s t 0 = { s with marks := addS s.marks t.marks } := by show PoM.mk _ _ _ _ _ _ _ = _; simp [appAll]
       rw [e0]; exact HW6
 case rest =>
   obtain ⟨a5, c5, HW3, HS3⟩ := hcut; clear x0 x1 y0 y1 HT2m ho2 HX2 HT2 HW2 HS2; have HX3 := Lib.hid (box_kept HS3.out.kept HX.out HBX.out); obtain ⟨x0, x1⟩ := box_cells HX3.out; go_wp2_with fail
   go_loopw [39] (fun vi wr => ∃ (k : Nat) (I' : Nat → Prop) (v' : PoV), k ≤ t.outs.length ∧ vi = .int .i64 k ∧ Hid (PoW p q I' wr r s0 (outK s t k) (m ++ t.marks) v' ta a5 ba tc c5 bc) ∧ Hid (PoStep p q I v na W I' v' a5 wr)) (fun vi _ => t.outs.length - (intOf vi).toNat)
   case atStart => exact ⟨0, I, v, Nat.zero_le _, rfl, HW3, HS3⟩
   case round =>
     obtain ⟨k, I', v', hk, rfl, HP, HSr⟩ := hrel
     by_cases hlt : k < t.outs.length
     · have HXr := Lib.hid (box_kept HSr.out.kept HX.out HBX.out)
       have HTr := Lib.hid (HT.out.keep (HSr.out.kept.mono fun k _ hk => HS.out k hk))
       obtain ⟨bb, off, ca, cc, hoa, -, hbl, ok0, ok1, ok2, -, c0, c1, c2, c3⟩ := outs_at HTr.out.outs k hlt; subst hoa; obtain ⟨D, hD⟩ : ∃ D, r.depth.toNat = D := ⟨_, rfl⟩; have HD := Lib.hid hD; have hct : commitsT t = t.outs.map (·.commit) := rfl
       have hcl : (commitsT t).length = t.outs.length := by rw [hct, List.length_map]
       have hcin : ∀ x ∈ commitsT t, 0 ≤ x ∧ x < 18446744069414584321 := by
         intro x hx
         obtain ⟨o, ho, rfl⟩ := List.mem_map.1 hx
         refine ⟨?_, validE_commits HV.out o ho⟩
         obtain ⟨j, hj, rfl⟩ := List.getElem_of_mem ho; obtain ⟨_, _, _, _, _, _, _, okj, _⟩ := outs_at HTr.out.outs j hj
         exact (okU_in okj).1
       have hck : (commitsT t)[k]'(by omega) = t.outs[k].commit := by simp [hct]
       have HCM : Hid (0 ≤ t.outs[k].commit ∧ t.outs[k].commit < 18446744069414584321) := by rw [← hck]; exact hcin _ (List.getElem_mem _)
       have hap := appAll_ok ((commitsT t).take k) s.tree (hD ▸ HOK.out.tree) (by have h1 := HOK.out.count; have h2 := HLE.out; rw [hD] at h2; rw [List.length_take, hcl]; omega) fun x hx => hcin x (List.mem_of_mem_take hx)
       have HFK : Hid (FrOK (outK s t k).tree D ∧ (outK s t k).tree.count < 2 ^ D) := ⟨hap.1, by show (appAll _ _).count < _; rw [hap.2]; have h1 := HOK.out.count; have h2 := HLE.out; rw [hD] at h2; rw [List.length_take, hcl]; omega⟩
       have HN : Hid (outK s t (k + 1) = ⟨appF (outK s t k).tree t.outs[k].commit, (outK s t k).leaves ++ [t.outs[k].commit], (outK s t k).marks, (outK s t k).book, (outK s t k).hidden, (outK s t k).roots, (outK s t k).past⟩) := by
         show PoM.mk _ _ _ _ _ _ _ = PoM.mk _ _ _ _ _ _ _
         rw [appAll_snoc s.tree (commitsT t) k (by omega), hck, List.take_succ_eq_append_getElem (show k < (commitsT t).length by omega), hck, List.append_assoc]
       have HSL : Hid ((outK s t k).leaves.length ≤ 5000) := by
         show (s.leaves ++ (commitsT t).take k).length ≤ _
         have h1 := HOK.out.count; have h2 := HOK.out.tree.c1
         obtain ⟨-, -, e3⟩ := pow12 ⟨r.depth.toNat, by have := HOK.out.tree.d1; omega⟩
         simp only at e3
         rw [List.length_append, List.length_take]; omega
       generalize outK s t k = sk at *; generalize t.outs[k] = og at *; clear hck hcin hcl hct hap hD; obtain ⟨x0, x1⟩ := box_cells HXr.out
       go_upto_region 8 with (fail)
       have hbO := bnew (Below.refl wr.heap.size wr) (.cells #[.int .u64 og.commit, .int .u64 og.p0, .int .u64 og.p1, .slice ca og.cipher.length cc] 297); have HOB := Lib.hid (box_new wr (.cells #[.int .u64 og.commit, .int .u64 og.p0, .int .u64 og.p1, .slice ca og.cipher.length cc] 297)); have HP1 := Lib.hid (HP.out.keepB hbO); have HS1 := Lib.hid (HSr.out.trans (PoStep.below hbO)); clear hbO x0 x1 c0 c1 c2 c3 HTr HXr HP HSr hbl; generalize wr.heap.size = B1 at *; generalize wr.alloc (.cells #[.int .u64 og.commit, .int .u64 og.p0, .int .u64 og.p1, .slice ca og.cipher.length cc] 297) = w1 at *; obtain ⟨fr, hfr⟩ : ∃ fr, appF sk.tree og.commit = fr := ⟨_, rfl⟩; have HFR := Lib.hid hfr; rw [hfr] at HN; clear hfr
       go_cut [10, 11] from 43 to 52 (fun v10 v11 wc => ∃ b a c, v10 = .pointer (some ⟨b, 0, none⟩) ∧ v11 = .int .i64 0 ∧ Hid (wc.heap[b]? = some (.cells #[.int .i64 fr.depth, .int .i64 fr.count, .slice a fr.left.length c] 148 (0, 0))) ∧ Hid (numsR.rel (fun k => w1.heap.size ≤ k) wc [.slice a fr.left.length c] fr.left) ∧ Hid (Below w1.heap.size w1 wc))
       case first =>
         go_region_held3 (fun w' => Below w1.heap.size w1 w' ∧ (∀ o, w'.cell? ⟨p, o, none⟩ = (poCells r sk v')[o]?) ∧ (∀ o, w'.cell? ⟨B1, o, none⟩ = (#[.int .u64 og.commit, .int .u64 og.p0, .int .u64 og.p1, .slice ca og.cipher.length cc] : Array Value)[o]?))
           (first
             | with_reducible exact BkK2.drew (BkK2.of HP1.out.at'.cell HOB.out (Below.refl _ _))
             | with_reducible exact HK1.out
             | with_reducible exact BkK2.of HP1.out.at'.cell HOB.out (bnew HK1.out.1 _)
             | exact BkK2.of HP1.out.at'.cell HOB.out (below_cells HK1.out.1 (Nat.le_refl _) [.int .i64 fr.depth, .int .i64 fr.count, .slice a7 fr.left.length c7] 0 HK1.out.1.size)
             | with_reducible exact BkK2.drew (BkK2.of HP1.out.at'.cell HOB.out (bnew (Below.refl _ _) _)))
           (first
             | (go_at_call 312; have HBp := Lib.hid (‹Below w1.heap.size w1 _ ∧ _› : BkK2 (poCells r sk v') #[.int .u64 og.commit, .int .u64 og.p0, .int .u64 og.p1, .slice ca og.cipher.length cc] p B1 w1 _)
                refine (frAppend_any I' _ sk.tree D HFK.out.1 HFK.out.2 v'.ta v'.tc (HP1.out.keepB HBp.out.1).at'.data.tree og.commit HCM.out).mono ?_
                rw [HFR.out]; rintro e w5 ⟨a7, c7, rfl, hr5, hb5⟩; have HK1 := Lib.hid (BkK2.of HP1.out.at'.cell HOB.out (bnext HBp.out.1 hb5)); have HR5 := Lib.hid hr5; clear hr5
                first
                  | (have hqA : w5.heap[w1.heap.size]? = _ := box_after hb5 (box_new w1 (.cells #[.int .i64 0, .int .i64 0, .slice none 0 0] 148)); obtain ⟨k0, k1⟩ := box_cells hqA; have HQ := Lib.hid hqA; clear hqA)
                  | skip))
         · have hbF := bnew HK1.out.1 (.cells #[.int .i64 fr.depth, .int .i64 fr.count, .slice a7 fr.left.length c7] 148)
           have HBF := Lib.hid (box_new w5 (.cells #[.int .i64 fr.depth, .int .i64 fr.count, .slice a7 fr.left.length c7] 148))
           have HRF := Lib.hid (numsR.mono (numsR.keepB HR5.out (bnew (Below.refl _ _) (.cells #[.int .i64 fr.depth, .int .i64 fr.count, .slice a7 fr.left.length c7] 148))) (S' := fun k => w1.heap.size ≤ k) fun k _ h => h)
           have HBel := Lib.hid hbF; clear hbF; go_wp2_with fail
           go_meet
           case rel => exact ⟨w5.heap.size, a7, c7, rfl, rfl, HBF, HRF, HBel⟩
         · have hkF := kept_cells w5 (q := w1.heap.size) (S := fun k => k ≠ w1.heap.size) (fun h => h rfl) [.int .i64 fr.depth, .int .i64 fr.count, .slice a7 fr.left.length c7] 0
           have hbF := below_cells HK1.out.1 (q := w1.heap.size) (Nat.le_refl _) [.int .i64 fr.depth, .int .i64 fr.count, .slice a7 fr.left.length c7] 0 HK1.out.1.size; have hBF := cells_box (old := [.int .i64 0, .int .i64 0, .slice none 0 0]) HQ.out [.int .i64 fr.depth, .int .i64 fr.count, .slice a7 fr.left.length c7] rfl
           have hRF := numsR.mono (numsR.keep HR5.out (hkF.mono fun k _ h => by have h' : (w1.alloc (.cells #[.int .i64 0, .int .i64 0, .slice none 0 0] 148)).heap.size ≤ k := h; rw [World.size_alloc] at h'; show k ≠ _; omega)) (S' := fun k => w1.heap.size ≤ k) fun k _ h => by have h' : (w1.alloc (.cells #[.int .i64 0, .int .i64 0, .slice none 0 0] 148)).heap.size ≤ k := h; rw [World.size_alloc] at h'; show _ ≤ k; omega
           obtain ⟨wf, hwf⟩ : ∃ wf, wf = w5.setCells w1.heap.size 0 [.int .i64 fr.depth, .int .i64 fr.count, .slice a7 fr.left.length c7] := ⟨_, rfl⟩; rw [← hwf] at hbF hBF hRF
           simp only [World.setCells, Nat.reduceAdd, Nat.zero_add] at hwf
           have HWF := Lib.hid hwf; have HBF := Lib.hid hBF; have HRF := Lib.hid hRF; have HBel := Lib.hid hbF; clear hwf hBF hRF hbF hkF; go_wp2_with fail; rw [← HWF.out]
           go_meet
           case rel => exact ⟨w1.heap.size, a7, c7, rfl, rfl, HBF, HRF, HBel⟩
       case rest =>
         obtain ⟨b8, a8, c8, rfl, rfl, HB8, HR8, HBe⟩ := hcut; have HPc := Lib.hid (HP1.out.keepB HBe.out); have HSc := Lib.hid (HS1.out.trans (PoStep.below HBe.out)); have HOc := Lib.hid (box_after HBe.out HOB.out); obtain ⟨k0, k1⟩ := box_cells HB8.out; obtain ⟨y0, y1⟩ := box_cells HPc.out.at'.cell
         simp only [poCells] at y0
         go_upto_region 12 with (fail)
         have hg9 := HPc.out.at'.grow (B := w1.heap.size) HP1.out.at'.mut_lt
         have hr9 := numsR.mono HR8.out (S' := fun k => I' k ∨ (w1.heap.size ≤ k ∧ k < wc.heap.size)) fun k hk h => .inr ⟨h, hk⟩
         have hat9 := hg9.setTree hr9
         have hk9 : Kept (fun k => ¬ PoMut p v' k) w1 (wc.setCells p 9 [.int .i64 fr.depth, .int .i64 fr.count, .slice a8 fr.left.length c8]) :=
           (Kept.of_below HBe.out).trans (kept_cells wc (q := p) (S := fun k => ¬ PoMut p v' k) (fun h => h (.inl rfl)) _ 9) fun _ _ h => h
         obtain ⟨hw9, hs9⟩ := HP1.out.step hat9 hk9 (fun _ h => .inl h) (fun _ h => .inl h) (fun k h => h.elim .inl fun h => .inr h.1)
         have ho9 : (wc.setCells p 9 [.int .i64 fr.depth, .int .i64 fr.count, .slice a8 fr.left.length c8]).heap[B1]? = _ := box_kept (kept_cells wc (q := p) (S := fun k => k ≠ p) (fun h => h rfl) _ 9) HOc.out (fun e => by have h1 := HOc.out; have h2 := HPc.out.at'.cell; rw [e, h2] at h1; simp at h1)
         obtain ⟨w9, hwf⟩ : ∃ wf, wf = wc.setCells p 9 [.int .i64 fr.depth, .int .i64 fr.count, .slice a8 fr.left.length c8] := ⟨_, rfl⟩; rw [← hwf] at hw9 hs9 ho9
         simp only [World.setCells, Nat.reduceAdd] at hwf
         rw [← hwf]; have HP9 := Lib.hid hw9; have HS9 := Lib.hid (HS1.out.trans hs9); have HO9 := Lib.hid ho9; clear hwf hg9 hr9 hat9 hk9 hw9 hs9 ho9 k0 k1 y0 y1 HPc HSc HOc HB8 HR8 HBe HP1 HS1 HOB
         generalize (fun k => I' k ∨ (w1.heap.size ≤ k ∧ k < wc.heap.size)) = I9 at *
         generalize ({ v' with ta := a8, tc := c8 } : PoV) = v9 at *
         obtain ⟨s9, hs9⟩ : ∃ s9 : PoM, (⟨fr, sk.leaves, sk.marks, sk.book, sk.hidden, sk.roots, sk.past⟩ : PoM) = s9 := ⟨_, rfl⟩
         have HN9 : Hid (outK s t (k + 1) = ⟨s9.tree, s9.leaves ++ [og.commit], s9.marks, s9.book, s9.hidden, s9.roots, s9.past⟩) := by rw [← hs9]; exact HN
         have HSL9 : Hid (s9.leaves.length ≤ 5000) := by rw [← hs9]; exact HSL
         have HP9' : Hid (PoW p q I9 w9 r s0 s9 (m ++ t.marks) v9 ta a5 ba tc c5 bc) := by rw [← hs9]; exact HP9
         clear HP9 hs9 HN HSL; have HP9 := HP9'; clear HP9'; have hbd : Below w9.heap.size w9 w9.drew := (Below.refl _ _).drew; have HPd := Lib.hid (HP9.out.keepB hbd); have HOd := Lib.hid (box_after hbd HO9.out); have HLd := Lib.hid HPd.out.at'.data.leaves
         have hsrc : Src u64R (fun _ => False) (w9.drew.alloc (.cells #[.int .u64 og.commit] 24)) (.slice (some ⟨w9.drew.heap.size, 0, none⟩) 1 1) [og.commit] := Src.one (r := u64R) (y := og.commit) ⟨rfl, ok0⟩ (CellsAt.new w9.drew [.int .u64 og.commit] 24)
         have HSRC := Lib.hid hsrc; have HA1 : Hid (Below w9.heap.size w9 (w9.drew.alloc (.cells #[.int .u64 og.commit] 24))) := bnew hbd _; obtain ⟨y0, y1⟩ := box_cells HPd.out.at'.cell
         have yy := fun o' => (box_cells (box_old (o' := o') HP9.out.at'.cell)).1
         have xx := fun o' => (box_cells (box_old (o' := o') HO9.out)).1
         obtain ⟨x0, x1⟩ := box_cells HOd.out
         simp only [poCells] at y0 yy
         clear hsrc hbd
         go_region_law (first
           | (refine step_append_rel (r := u64R) (base := 0) (v := .slice v9.la s9.leaves.length v9.lc) (u := .slice (some ⟨w9.drew.heap.size, 0, none⟩) 1 1) (S := fun _ => False) rfl _ _ rfl Tryz.etyNums rfl rfl (Own.keepB HLd.out (bnew (Below.refl _ _) (.cells #[.int .u64 og.commit] 24))) HSRC.out (fun _ _ hk => hk.elim) (fun _ _ h => h) (by have := HSL9.out; unfold maxLen; simp; omega) (by have := HSL9.out; simp; omega) (Nat.zero_le _) ?_
              intro v5 w5 ho5 hk5 hl5
              obtain ⟨a6, c6, rfl, -, -⟩ := own_form ho5; have HO5 := Lib.hid ho5
              have hk5' : Kept (fun k => blkO v9.la ≠ some k) (w9.drew.alloc (.cells #[.int .u64 og.commit] 24)) w5 := hk5.mono fun k _ h => by rw [own_blk]; exact h
              have HK5 := Lib.hid hk5'; have HL5 := Lib.hid hl5; obtain ⟨z0, z1⟩ := box_cells (box_kept hk5' (box_after HA1.out HP9.out.at'.cell) HP9.out.at'.ne_la); clear ho5 hk5 hl5 hk5'))
         all_goals
           have HPa := HP9.out.keepB HA1.out; have hl6 := HL5.out; rw [own_blk v9.la] at hl6; obtain ⟨a7, c7, e7, hor, hat⟩ := HPa.at'.leavesTo HO5.out HK5.out hl6
           simp only [Value.slice.injEq, true_and] at e7
           obtain ⟨rfl, rfl⟩ := e7
           have hk6 : Kept (fun k => ¬ PoMut p v9 k) w9 (w5.setCell ⟨p, 12, none⟩ (.slice a6 (s9.leaves ++ [og.commit]).length c6)) :=
             ((Kept.of_below HA1.out).trans (HK5.out.mono (S' := fun k => ¬ PoMut p v9 k) fun k _ h e => h (.inr (.inr (.inr (.inl e))))) fun _ _ h => h).trans (kept_one w5 p 12 _) fun k _ h e => h (.inl e)
           obtain ⟨hw6, hs6⟩ := HP9.out.step hat hk6 (fun k hm => by
             rcases hm with e | e | e | e | e | e
             · exact .inl (.inl e)
             · exact .inl (.inr (.inl e))
             · exact .inl (.inr (.inr (.inl e)))
             · rcases hor k e with h1 | h1
               · exact .inl (.inr (.inr (.inr (.inl h1))))
               · rw [World.size_alloc] at h1; exact .inr (by rw [h1]; exact Nat.le_succ _)
             · exact .inl (.inr (.inr (.inr (.inr (.inl e)))))
             · exact .inl (.inr (.inr (.inr (.inr (.inr e)))))) (fun _ h => h) (fun _ h => .inl h)
           rw [show (s9.leaves ++ [og.commit]).length = s9.leaves.length + 1 by simp] at hw6 hs6
           have HP6 := Lib.hid hw6; have HS6 := Lib.hid (HS9.out.trans hs6); clear hw6 hs6 hk6 hat hor hl6 HPa x0 x1 y0 y1 xx yy z0 z1; go_wp2_with fail
           go_roundw
           case rel => exact ⟨k + 1, I9, _, by omega, by go_num, by rw [HN9.out]; exact HP6, HS6⟩
           case measure => simp [intOf]; omega
     · obtain rfl : k = t.outs.length := by omega
       have hcl : (commitsT t).length = t.outs.length := by simp
       obtain ⟨tr, htr⟩ : ∃ x, appAll s.tree (commitsT t) = x := ⟨_, rfl⟩; obtain ⟨lv, hlv⟩ : ∃ x, s.leaves ++ commitsT t = x := ⟨_, rfl⟩; obtain ⟨mk, hmk⟩ : ∃ x, addS s.marks t.marks = x := ⟨_, rfl⟩
       have e0 : outK s t t.outs.length = ⟨tr, lv, mk, s.book, s.hidden, s.roots, s.past⟩ := by
         show PoM.mk _ _ _ _ _ _ _ = _
         rw [← hcl, List.take_length, htr, hlv, hmk]
       have HPW : Hid (perfW s t = ⟨tr, lv, mk, if 0 < t.wd ∧ perfE s t = 0 then creditL (book1 s t) t.acc t.wd else book1 s t, if perfE s t = 0 then wrapU (wrapU (wrapU (s.hidden + t.dep) - t.wd) - t.fee) else s.hidden, s.roots, s.past⟩) := by rw [← htr, ← hlv, ← hmk]; rfl
       rw [e0] at HP; clear htr hlv hmk e0 hcl hlt hk x0 x1; have HXr := Lib.hid (box_kept HSr.out.kept HX.out HBX.out)
       have HBB : Hid ((book1 s t).length ≤ 100000 ∧ upL (book1 s t)) := by
         have := HOK.out.book; unfold book1
         show _ ∧ _
         split
         · exact ⟨by have := debitL_len s.book t.acc t.dep t.nonce; omega, debitL_up HOK.out.up _ _ _⟩
         · exact ⟨by omega, HOK.out.up⟩
       have HPE : Hid (perfE s t = if 0 < t.wd then creditE (book1 s t) t.acc t.wd else 0) := rfl; have HB1 : Hid (book1 s t = if 0 < t.dep then debitL s.book t.acc t.dep t.nonce else s.book) := rfl; generalize book1 s t = bb at *; obtain ⟨x0, x1⟩ := box_cells HXr.out
       go_upto_if 74 with (fail)
       go_cut [12, 13] from 16 (fun v12 v13 wc => ∃ (I' : Nat → Prop) (v' : PoV), Hid (PoW p q I' wc r s0 ⟨tr, lv, mk, bb, s.hidden, s.roots, s.past⟩ (m ++ t.marks) v' ta a5 ba tc c5 bc) ∧ Hid (PoStep p q I v na W I' v' a5 wc))
       case first =>
         by_cases hdp : 0 < t.dep
         · have HBK : Hid (debitL s.book t.acc t.dep t.nonce = bb) := by show _ = _; rw [HB1.out, if_pos hdp]
           have HER := Lib.hid (HDB.out hdp); clear HB1 HPE; go_wp2_with fail
           go_cut [12, 13] from 16 (fun v12 v13 wc => ∃ b a c, v12 = .pointer (some ⟨b, 0, none⟩) ∧ v13 = .int .i64 0 ∧ Hid (wc.heap[b]? = some (.cells #[.slice a bb.length c] 155 (0, 0))) ∧ Hid (accsR.rel (fun k => wr.heap.size ≤ k) wc [.slice a bb.length c] bb) ∧ Hid (Below wr.heap.size wr wc))
           case first =>
             go_region_held3 (fun w' => Below wr.heap.size wr w' ∧ (∀ o, w'.cell? ⟨p, o, none⟩ = (poCells r ⟨tr, lv, mk, s.book, s.hidden, s.roots, s.past⟩ v')[o]?) ∧ (∀ o, w'.cell? ⟨w.heap.size, o, none⟩ = (#[.int .u64 t.anchor, .slice ma t.marks.length mc, .slice oa t.outs.length oc, .int .u64 t.dep, .int .u64 t.wd, .int .u64 t.fee, .int .u64 t.acc, .int .u64 t.nonce, .int .i64 t.exp, .slice pa t.proof.length pc] : Array Value)[o]?))
               (first
                 | with_reducible exact BkK2.drew (BkK2.of HP.out.at'.cell HXr.out (Below.refl _ _))
                 | with_reducible exact HK1.out
                 | with_reducible exact BkK2.of HP.out.at'.cell HXr.out (bnew HK1.out.1 _)
                 | exact BkK2.of HP.out.at'.cell HXr.out (below_put HK1.out.1 (Nat.le_refl _) _ HK1.out.1.size)
                 | with_reducible exact BkK2.drew (BkK2.of HP.out.at'.cell HXr.out (bnew (Below.refl _ _) _)))
               (first
                 | (go_at_call 221; have HBp := Lib.hid (‹Below wr.heap.size wr _ ∧ _› : BkK2 (poCells r ⟨tr, lv, mk, s.book, s.hidden, s.roots, s.past⟩ v') #[.int .u64 t.anchor, .slice ma t.marks.length mc, .slice oa t.outs.length oc, .int .u64 t.dep, .int .u64 t.wd, .int .u64 t.fee, .int .u64 t.acc, .int .u64 t.nonce, .int .i64 t.exp, .slice pa t.proof.length pc] p w.heap.size wr _)
                    refine (debit_any I' _ v'.ba v'.bc s.book (HP.out.keepB HBp.out.1).at'.data.book (by have := HOK.out.book; omega) HOK.out.up t.acc t.dep t.nonce HT.out.acc HT.out.dep HT.out.nonce).mono ?_
                    rw [HBK.out, HER.out]; rintro e w5 ⟨a7, c7, rfl, hr5, hb5⟩; have HK1 := Lib.hid (BkK2.of HP.out.at'.cell HXr.out (bnext HBp.out.1 hb5)); have HR5 := Lib.hid hr5; clear hr5
                    first
                      | (have hqA : w5.heap[wr.heap.size]? = _ := box_after hb5 (box_new wr (.cells #[.slice none 0 0] 155)); obtain ⟨k0, k1⟩ := box_cells hqA; have HQ := Lib.hid hqA; clear hqA)
                      | skip))
             · have HBF := Lib.hid (box_new w5 (.cells #[.slice a7 bb.length c7] 155))
               have HRF := Lib.hid ((accsR).mono ((accsR).keepB HR5.out (bnew (Below.refl _ _) (.cells #[.slice a7 bb.length c7] 155))) (S' := fun k => wr.heap.size ≤ k) fun k _ h => h)
               have HBel := Lib.hid (bnew HK1.out.1 (.cells #[.slice a7 bb.length c7] 155)); go_wp2_with fail
               go_meet
               case rel => exact ⟨w5.heap.size, a7, c7, rfl, rfl, HBF, HRF, HBel⟩
             · have HBF : Hid ((w5.setCell ⟨wr.heap.size, 0, none⟩ (.slice a7 bb.length c7)).heap[wr.heap.size]? = some (.cells #[.slice a7 bb.length c7] 155 (0, 0))) := box_set HQ.out
               have HRF := Lib.hid ((accsR).mono ((accsR).keep HR5.out ((kept_one w5 wr.heap.size 0 (.slice a7 bb.length c7)).mono fun k _ h => by have h' : (wr.alloc (.cells #[.slice none 0 0] 155)).heap.size ≤ k := h; rw [World.size_alloc] at h'; show k ≠ _; omega)) (S' := fun k => wr.heap.size ≤ k) fun k _ h => by have h' : (wr.alloc (.cells #[.slice none 0 0] 155)).heap.size ≤ k := h; rw [World.size_alloc] at h'; show _ ≤ k; omega)
               have HBel := Lib.hid (below_put (i := 0) HK1.out.1 (q := wr.heap.size) (Nat.le_refl _) (.slice a7 bb.length c7) HK1.out.1.size); go_wp2_with fail
               go_meet
               case rel => exact ⟨wr.heap.size, a7, c7, rfl, rfl, HBF, HRF, HBel⟩
           case rest =>
             obtain ⟨b8, a8, c8, rfl, rfl, HB8, HR8, HBe⟩ := hcut; have HPc := Lib.hid (HP.out.keepB HBe.out); have hg9 := HPc.out.at'.grow (B := wr.heap.size) HP.out.at'.mut_lt
             have hr9 := (accsR).mono HR8.out (S' := fun k => I' k ∨ (wr.heap.size ≤ k ∧ k < wc.heap.size)) fun k hk h => .inr ⟨h, hk⟩
             have hat9 := hg9.setBook hr9
             have hk9 : Kept (fun k => ¬ PoMut p v' k) wr (wc.setCell ⟨p, 14, none⟩ (.slice a8 bb.length c8)) :=
               (Kept.of_below HBe.out).trans (kept_one wc p 14 _) fun k _ h e => h (.inl e)
             obtain ⟨hw9, hs9⟩ := HP.out.step hat9 hk9 (fun _ h => .inl h) (fun _ h => .inl h) (fun k h => h.elim .inl fun h => .inr h.1)
             have HP9 := Lib.hid hw9; have HS9 := Lib.hid (HSr.out.trans hs9); obtain ⟨k0, k1⟩ := box_cells HB8.out; obtain ⟨y0, y1⟩ := box_cells HPc.out.at'.cell
             simp only [poCells] at y0
             clear hg9 hr9 hat9 hk9 hw9 hs9; go_wp2_with fail
             go_meet
             case rel => exact ⟨_, _, HP9, HS9⟩
         · have e1 : bb = s.book := by rw [HB1.out, if_neg hdp]
           go_wp2_with fail
           go_meet
           case rel => exact ⟨I', v', by rw [e1]; exact HP, HSr⟩
       case rest =>
         obtain ⟨I2, v2, HP2, HS2⟩ := hcut; clear HP HSr HXr x0 x1 HB1; have HXr := Lib.hid (box_kept HS2.out.kept HX.out HBX.out); obtain ⟨x0, x1⟩ := box_cells HXr.out
         rename World => wr2
         go_upto_if 98 with (fail)
         go_cut [14, 15] from 16 (fun v14 v15 wc => ∃ (I' : Nat → Prop) (v' : PoV), Hid (perfE s t = 0) ∧ Hid (PoW p q I' wc r s0 ⟨tr, lv, mk, (perfW s t).book, s.hidden, s.roots, s.past⟩ (m ++ t.marks) v' ta a5 ba tc c5 bc) ∧ Hid (PoStep p q I v na W I' v' a5 wc))
         case first =>
           by_cases hwp : 0 < t.wd
           · obtain ⟨bk, hbk⟩ : ∃ x, creditL bb t.acc t.wd = x := ⟨_, rfl⟩
             obtain ⟨er, her⟩ : ∃ x, creditE bb t.acc t.wd = x := ⟨_, rfl⟩; have HBK := Lib.hid hbk; have HER := Lib.hid her
             have HPE2 : Hid (perfE s t = er) := by show _ = _; rw [HPE.out, if_pos hwp, her]
             have HPB : Hid (er = 0 → (perfW s t).book = bk) := fun h => by rw [HPW.out]; show (if _ then _ else _) = _; rw [if_pos ⟨hwp, by rw [HPE2.out]; exact h⟩, hbk]
             clear hbk her HPE; go_wp2_with fail
             go_cut [14, 15] from 16 (fun v14 v15 wc => ∃ b a c, v14 = .pointer (some ⟨b, 0, none⟩) ∧ v15 = .int .i64 er ∧ Hid (wc.heap[b]? = some (.cells #[.slice a bk.length c] 155 (0, 0))) ∧ Hid (accsR.rel (fun k => wr2.heap.size ≤ k) wc [.slice a bk.length c] bk) ∧ Hid (Below wr2.heap.size wr2 wc))
             case first =>
               go_region_held3 (fun w' => Below wr2.heap.size wr2 w' ∧ (∀ o, w'.cell? ⟨p, o, none⟩ = (poCells r ⟨tr, lv, mk, bb, s.hidden, s.roots, s.past⟩ v2)[o]?) ∧ (∀ o, w'.cell? ⟨w.heap.size, o, none⟩ = (#[.int .u64 t.anchor, .slice ma t.marks.length mc, .slice oa t.outs.length oc, .int .u64 t.dep, .int .u64 t.wd, .int .u64 t.fee, .int .u64 t.acc, .int .u64 t.nonce, .int .i64 t.exp, .slice pa t.proof.length pc] : Array Value)[o]?))
                 (first
                   | with_reducible exact BkK2.drew (BkK2.of HP2.out.at'.cell HXr.out (Below.refl _ _))
                   | with_reducible exact HK1.out
                   | with_reducible exact BkK2.of HP2.out.at'.cell HXr.out (bnew HK1.out.1 _)
                   | exact BkK2.of HP2.out.at'.cell HXr.out (below_put HK1.out.1 (Nat.le_refl _) _ HK1.out.1.size)
                   | with_reducible exact BkK2.drew (BkK2.of HP2.out.at'.cell HXr.out (bnew (Below.refl _ _) _)))
                 (first
                   | (go_at_call 257; have HBp := Lib.hid (‹Below wr2.heap.size wr2 _ ∧ _› : BkK2 (poCells r ⟨tr, lv, mk, bb, s.hidden, s.roots, s.past⟩ v2) #[.int .u64 t.anchor, .slice ma t.marks.length mc, .slice oa t.outs.length oc, .int .u64 t.dep, .int .u64 t.wd, .int .u64 t.fee, .int .u64 t.acc, .int .u64 t.nonce, .int .i64 t.exp, .slice pa t.proof.length pc] p w.heap.size wr2 _)
                      refine (credit_any I2 _ v2.ba v2.bc bb (HP2.out.keepB HBp.out.1).at'.data.book HBB.out.1 HBB.out.2 t.acc t.wd HT.out.acc HT.out.wd).mono ?_
                      rw [HBK.out, HER.out]; rintro e w5 ⟨a7, c7, rfl, hr5, hb5⟩; have HK1 := Lib.hid (BkK2.of HP2.out.at'.cell HXr.out (bnext HBp.out.1 hb5)); have HR5 := Lib.hid hr5; clear hr5
                      first
                        | (have hqA : w5.heap[wr2.heap.size]? = _ := box_after hb5 (box_new wr2 (.cells #[.slice none 0 0] 155)); obtain ⟨k0, k1⟩ := box_cells hqA; have HQ := Lib.hid hqA; clear hqA)
                        | skip))
               · have HBF := Lib.hid (box_new w5 (.cells #[.slice a7 bk.length c7] 155))
                 have HRF := Lib.hid ((accsR).mono ((accsR).keepB HR5.out (bnew (Below.refl _ _) (.cells #[.slice a7 bk.length c7] 155))) (S' := fun k => wr2.heap.size ≤ k) fun k _ h => h)
                 have HBel := Lib.hid (bnew HK1.out.1 (.cells #[.slice a7 bk.length c7] 155)); go_wp2_with fail
                 go_meet
                 case rel => exact ⟨w5.heap.size, a7, c7, rfl, rfl, HBF, HRF, HBel⟩
               · have HBF : Hid ((w5.setCell ⟨wr2.heap.size, 0, none⟩ (.slice a7 bk.length c7)).heap[wr2.heap.size]? = some (.cells #[.slice a7 bk.length c7] 155 (0, 0))) := box_set HQ.out
                 have HRF := Lib.hid ((accsR).mono ((accsR).keep HR5.out ((kept_one w5 wr2.heap.size 0 (.slice a7 bk.length c7)).mono fun k _ h => by have h' : (wr2.alloc (.cells #[.slice none 0 0] 155)).heap.size ≤ k := h; rw [World.size_alloc] at h'; show k ≠ _; omega)) (S' := fun k => wr2.heap.size ≤ k) fun k _ h => by have h' : (wr2.alloc (.cells #[.slice none 0 0] 155)).heap.size ≤ k := h; rw [World.size_alloc] at h'; show _ ≤ k; omega)
                 have HBel := Lib.hid (below_put (i := 0) HK1.out.1 (q := wr2.heap.size) (Nat.le_refl _) (.slice a7 bk.length c7) HK1.out.1.size); go_wp2_with fail
                 go_meet
                 case rel => exact ⟨wr2.heap.size, a7, c7, rfl, rfl, HBF, HRF, HBel⟩
             case rest =>
               obtain ⟨b8, a8, c8, rfl, rfl, HB8, HR8, HBe⟩ := hcut; have HPc := Lib.hid (HP2.out.keepB HBe.out); have hg9 := HPc.out.at'.grow (B := wr2.heap.size) HP2.out.at'.mut_lt
               have hr9 := (accsR).mono HR8.out (S' := fun k => I2 k ∨ (wr2.heap.size ≤ k ∧ k < wc.heap.size)) fun k hk h => .inr ⟨h, hk⟩
               have hat9 := hg9.setBook hr9
               have hk9 : Kept (fun k => ¬ PoMut p v2 k) wr2 (wc.setCell ⟨p, 14, none⟩ (.slice a8 bk.length c8)) :=
                 (Kept.of_below HBe.out).trans (kept_one wc p 14 _) fun k _ h e => h (.inl e)
               obtain ⟨hw9, hs9⟩ := HP2.out.step hat9 hk9 (fun _ h => .inl h) (fun _ h => .inl h) (fun k h => h.elim .inl fun h => .inr h.1)
               have HP9 := Lib.hid hw9; have HS9 := Lib.hid (HS2.out.trans hs9); obtain ⟨k0, k1⟩ := box_cells HB8.out; obtain ⟨y0, y1⟩ := box_cells HPc.out.at'.cell
               simp only [poCells] at y0
               clear hg9 hr9 hat9 hk9 hw9 hs9
               by_cases hz : er = 0
               · subst hz
                 have HPB2 := Lib.hid (HPB.out rfl); go_wp2_with fail
                 go_meet
                 case rel => exact ⟨_, _, HPE2, by rw [HPB2.out]; exact HP9, HS9⟩
               · have z1 : (er == 0) = false := by rw [beq_eq_false_iff_ne]; exact hz
                 have z2 : (er != 0) = true := by rw [bne_iff_ne]; exact hz
                 have HFW : Hid (perfW s t = ⟨tr, lv, mk, bb, s.hidden, s.roots, s.past⟩) := by
                   show _ = _
                   rw [HPW.out, if_neg (fun h => hz (HPE2.out.symm.trans h.2)), if_neg (fun h => hz (HPE2.out.symm.trans h))]
                 have HSF := Lib.hid (HS0.out.trans (HS2.out.trans (PoStep.below (p := p) (q := q) (I := I2) (v := v2) (ma := a5) HBe.out))); clear hz; go_wp2_with fail; go_ret
                 exact ⟨ret_int HPE2.out.symm, I2, v2, a5, c5, by rw [HFW.out]; exact HPc.out, HSF.out⟩
           · have e1 : perfE s t = 0 := by rw [HPE.out, if_neg hwp]
             have e2 : (perfW s t).book = bb := by rw [HPW.out]; show (if _ then _ else _) = _; rw [if_neg fun h => hwp h.1]
             have HPE0 := Lib.hid e1; have HPB := Lib.hid e2; clear e1 e2 HPE; go_wp2_with fail
             go_meet
             case rel => exact ⟨I2, v2, HPE0, by rw [HPB.out]; exact HP2, HS2⟩
         case rest =>
           obtain ⟨I3, v3, HPE0, HP3, HS3'⟩ := hcut; clear HP2 HS2 HXr x0 x1 HPE; have HXr := Lib.hid (box_kept HS3'.out.kept HX.out HBX.out)
           rename World => wr3
           have hbd : Below wr3.heap.size wr3 wr3.drew := (Below.refl _ _).drew; obtain ⟨x0, x1⟩ := box_cells HXr.out; obtain ⟨y0, y1⟩ := box_cells HP3.out.at'.cell
           simp only [poCells] at y0
           have hhw : okU (wrapU (wrapU (wrapU (s.hidden + t.dep) - t.wd) - t.fee)) := wrapU_ok _; have hat := (HP3.out.keepB hbd).at'.setHidden (wrapU (wrapU (wrapU (s.hidden + t.dep) - t.wd) - t.fee)) hhw
           have hk4 : Kept (fun k => ¬ PoMut p v3 k) wr3 (wr3.drew.setCell ⟨p, 15, none⟩ (.int .u64 (wrapU (wrapU (wrapU (s.hidden + t.dep) - t.wd) - t.fee)))) := (Kept.of_below hbd).trans (kept_one wr3.drew p 15 _) fun k _ h e => h (.inl e)
           obtain ⟨hw4, hs4⟩ := HP3.out.step hat hk4 (fun _ h => .inl h) (fun _ h => h) (fun _ h => .inl h)
           have HP4 := Lib.hid hw4; have HS4 := Lib.hid (HS0.out.trans (HS3'.out.trans hs4))
           have HFW : Hid (perfW s t = ⟨tr, lv, mk, (perfW s t).book, wrapU (wrapU (wrapU (s.hidden + t.dep) - t.wd) - t.fee), s.roots, s.past⟩) := by
             show _ = _
             conv => lhs; rw [HPW.out, if_pos HPE0.out]
             rw [HPW.out]
           clear hbd hhw hat hk4 hw4 hs4; go_wp2_with fail
           go_region
           go_wp2_with fail; go_ret; rw [HPE0.out]
           exact ⟨rfl, I3, v3, a5, c5, by rw [HFW.out]; exact HP4.out, HS4.out⟩
end Go.Proofs.YtphacfkcifpobaaGreatDoor
