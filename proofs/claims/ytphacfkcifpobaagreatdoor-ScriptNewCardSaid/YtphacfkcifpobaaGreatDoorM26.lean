/- Script: a node sends. -/
import Derived.Test.YtphacfkcifpobaaGreatDoorM25
set_option maxRecDepth 100000
namespace Go.Proofs.YtphacfkcifpobaaGreatDoor
open Go.ChangeShapes Go.WideShapes Go.ChangeAt Go.RowKit Go.Sort
def sendM (num : Nat) (exc kind : Int) (bs : List Int) : Nat → List Msg
 | 0 => []
 | k + 1 => if k ≠ num ∧ (k : Int) ≠ exc then sendM num exc kind bs k ++ [⟨kind, num, k, bs⟩] else sendM num exc kind bs k
theorem sendM_len (num : Nat) (exc kind : Int) (bs : List Int) : ∀ k, (sendM num exc kind bs k).length ≤ k
 | 0 => by simp [sendM]
 | k + 1 => by
   have := sendM_len num exc kind bs k; unfold sendM
   split
   · rw [List.length_append]; simp only [List.length_singleton]; omega
   · omega
set_option maxHeartbeats 2000000 in
theorem ndSend_any {p op num nodes : Nat} {r : RuM} {seed : Int} {x : NdV} {S : Nat → Prop} (w : World) (hb : w.heap[p]? = some (.cells (ndC op r num nodes seed x) 84 (0, 0))) (hn : nodes ≤ 64) (hnum : num ≤ 64) (kind exc : Int) (hkd : okI kind) (a : Option Addr) (n c : Nat) (bs : List Int) (hr : bytesR.rel S w [.slice a n c] bs) (hl : bs.length = n) (hl2 : n ≤ 4194304) :
   Calls Tryz.prog 86 #[.pointer (some ⟨p, 0, none⟩), .int .i64 kind, .slice a n c, .int .i64 exc] w fun e w' => ∃ (ma : Option Addr) (mc : Nat), e = .returned (.slice ma (sendM num exc kind bs nodes).length mc) ∧ Fr (O := fun _ => False) [ownA msgR 0 145 (.slice ma (sendM num exc kind bs nodes).length mc) (sendM num exc kind bs nodes)] (fun _ => False) w w' := by
 have HB := Lib.hid hb; have HR := Lib.hid hr; have HL := Lib.hid hl; have HKD := Lib.hid hkd
 have HF1 : Hid (Fr (O := fun _ => False) [ownA msgR 0 145 (.slice none 0 0) []] (fun _ => False) w w) := (Fr.nil (O := fun _ => False) (fun _ => False) w (fun k h => h.elim)).new (Below.refl _ _) (Own.nil _ _ _ _ _)
 obtain ⟨x0, x1⟩ := box_cells hb; clear hb hr hl hkd
 go_enter Tryz.func86, Tryz.ntmps86
 go_wp2_with fail; clear x0 x1
 go_loopw [9, 15] (fun v9 v15 wr => ∃ (k l : Nat) (a9 : Option Addr) (c9 : Nat), k ≤ nodes ∧ v15 = .int .i64 k ∧ v9 = .slice a9 l c9 ∧ Hid ((sendM num exc kind bs k).length = l) ∧ Hid (Fr (O := fun _ => False) [ownA msgR 0 145 (.slice a9 l c9) (sendM num exc kind bs k)] (fun _ => False) w wr)) (fun _ v15 _ => nodes - (intOf v15).toNat)
 case atStart => exact ⟨0, 0, none, 0, Nat.zero_le _, rfl, rfl, rfl, HF1⟩
 case round =>
   clear HF1; obtain ⟨k, l, a9, c9, hk, rfl, rfl, HLE, HFR⟩ := hrel
   by_cases hlt : k < nodes
   · have HBR := Lib.hid HFR.out.below
     have HPB := Lib.hid (box_after HBR.out HB.out); have HRR := Lib.hid (bytesR.keepB HR.out HBR.out); obtain ⟨x0, x1⟩ := box_cells HPB.out
     have hlk : l ≤ k := by rw [← HLE.out]; exact sendM_len _ _ _ _ _
     by_cases hc : k ≠ num ∧ (k : Int) ≠ exc
     · have HSM : Hid (sendM num exc kind bs (k + 1) = sendM num exc kind bs k ++ [⟨kind, num, k, bs⟩]) := by show _ = _; conv => lhs; unfold sendM; rw [if_pos hc]
       have d1 : ((k : Int) != (num : Int)) = true := by rw [bne_iff_ne]; have := hc.1; omega
       have d2 : ((k : Int) != exc) = true := by rw [bne_iff_ne]; exact hc.2
       have d3 : ¬ k = num := hc.1; have d4 : ¬ (k : Int) = exc := hc.2; clear hc
       -- MARK2
       go_wp2_with fail
       refine (cloneBytes S wr (.slice a n c) bs HRR.out (by rw [HL.out]; exact hl2)).mono ?_
       rintro e w1 ⟨ya, yc, rfl, hy, hb1⟩; rw [HL.out] at hy ⊢
       have hmr : msgR.rel (fun i => wr.heap.size ≤ i) w1 [.int .i64 kind, .int .i64 num, .int .i64 k, .slice ya n yc] ⟨kind, num, k, bs⟩ := msgR.mk (m := ⟨kind, num, k, bs⟩) HKD.out (show okI (num : Int) from okI_of (by omega) (by omega)) (show okI (k : Int) from okI_of (by omega) (by omega)) hy
       have HF1 := Lib.hid (HFR.out.new (A := repA msgR [.int .i64 kind, .int .i64 num, .int .i64 k, .slice ya n yc] ⟨kind, num, k, bs⟩) hb1 hmr); have HP1 := Lib.hid (box_after hb1 HPB.out); clear hy hb1 hmr HFR HPB x0 x1 HRR; go_wp2_with fail
       refine (ndMessage_any w1 HP1.out kind k ya n yc).mono ?_
       rintro e w2 ⟨rfl, hb2⟩; have HF2 := Lib.hid ((HF1.out.keepB hb2).keepB (bnew (Below.refl w2.heap.size w2) (.cells #[.int .i64 kind, .int .i64 num, .int .i64 k, .slice ya n yc] 145))); have HCU : Hid (CellsAt (w2.alloc (.cells #[.int .i64 kind, .int .i64 num, .int .i64 k, .slice ya n yc] 145)) w2.heap.size 0 [.int .i64 kind, .int .i64 num, .int .i64 k, .slice ya n yc]) := CellsAt.new _ [.int .i64 kind, .int .i64 num, .int .i64 k, .slice ya n yc] 145; clear hb2 HF1 HP1
       go_wp2_with (at_builtin; refine wpList_appF rfl _ _ rfl Tryz.etyMsgs HF2.out i0 HCU.out rfl rfl HLE.out (by unfold maxLen; omega) (by omega) (Nat.zero_le _) ?_; intro a' c' w' hfa)
       -- MARK3
       have HFN : Hid (Fr (O := fun _ => False) [ownA msgR 0 145 (.slice a' (l + 1) c') (sendM num exc kind bs (k + 1))] (fun _ => False) w w') := by show Fr _ _ _ _; rw [HSM.out]; exact hfa
       have HLN : Hid ((sendM num exc kind bs (k + 1)).length = l + 1) := by show _ = _; rw [HSM.out, List.length_append, HLE.out]; rfl
       clear hfa
       go_roundw
       case rel => exact ⟨k + 1, l + 1, a', c', by omega, by go_num, rfl, HLN, HFN⟩
       case measure => simp [intOf]; omega
     · have HSM : Hid (sendM num exc kind bs (k + 1) = sendM num exc kind bs k) := by show _ = _; conv => lhs; unfold sendM; rw [if_neg hc]
       have HFN : Hid (Fr (O := fun _ => False) [ownA msgR 0 145 (.slice a9 l c9) (sendM num exc kind bs (k + 1))] (fun _ => False) w wr) := by show Fr _ _ _ _; rw [HSM.out]; exact HFR.out
       have HLN : Hid ((sendM num exc kind bs (k + 1)).length = l) := by show _ = _; rw [HSM.out]; exact HLE.out
       by_cases h1 : k = num
       · have d1 : ((k : Int) != (num : Int)) = false := by rw [bne_eq_false_iff_eq]; omega
         subst h1; clear hc; go_wp2_with fail
         go_roundw
         case rel => exact ⟨k + 1, l, a9, c9, by omega, by go_num, rfl, HLN, HFN⟩
         case measure => simp [intOf]; omega
       · have h2 : (k : Int) = exc := Classical.byContradiction fun h2 => hc ⟨h1, h2⟩
         have d1 : ((k : Int) != (num : Int)) = true := by rw [bne_iff_ne]; omega
         have d2 : ((k : Int) != exc) = false := by rw [bne_eq_false_iff_eq]; exact h2
         clear hc h2; go_wp2_with fail
         go_roundw
         case rel => exact ⟨k + 1, l, a9, c9, by omega, by go_num, rfl, HLN, HFN⟩
         case measure => simp [intOf]; omega
   · obtain rfl : k = nodes := by omega
     go_wp2_with fail; go_ret; rw [HLE.out]
     exact ⟨a9, c9, rfl, HFR.out⟩
end Go.Proofs.YtphacfkcifpobaaGreatDoor
/- Script: a node mines its first block. -/
namespace Go.Proofs.YtphacfkcifpobaaGreatDoor
open Go.ChangeShapes Go.WideShapes Go.ChangeAt Go.RowKit Go.Sort
theorem Fr.under {O : Nat → Prop} {F0 : Nat → Prop} {w0 w : World} {A : Asn O} {M : List (Asn O)} (h : Fr (A :: M) F0 w0 w) : ∃ G : Nat → Prop, Fr M G w w ∧ ∀ (M' : List (Asn O)) (w' : World), Fr M' G w w' → Fr (A :: M') F0 w0 w' := by
 have h1 : Fr [A, listA M] F0 w0 w := by
   obtain ⟨⟨F, ⟨G, a, b, c⟩, h2⟩, hk, hO⟩ := h
   exact ⟨⟨F, ⟨G, a, b, ⟨_, fun _ h => h, c, trivial⟩⟩, h2⟩, hk, hO⟩
 obtain ⟨G, hM, -, hin, hcl⟩ := h1.sub i1
 refine ⟨G, hin M hM, fun M' w' hf => ?_⟩
 obtain ⟨⟨F, ⟨G1, a, b, G2, c, d, -⟩, h3⟩, hk, hO⟩ := hcl (listA M') M' w' (fun _ _ h => h) hf
 exact ⟨⟨F, ⟨G1, a, b, SepL.mono d c⟩, h3⟩, hk, hO⟩
section
variable {O : Nat → Prop}
set_option maxHeartbeats 4000000 in
theorem ndMine_any {p op num nodes : Nat} {r : RuM} {seed : Int} {x : NdV} {G : Nat → Prop} {w0 w : World} (hf : Fr (O := O) (ndL p op r num nodes seed chM0 0 x) G w0 w) (hr : RuOK r) (hmo : r.mode = 2) (hno : nodes ≤ 64) (hnu : num ≤ 64) (hs : okU seed) (hw : okU r.work) (n : Nat) (hn : n ≤ 2000000) (k : Int) (hm : mineB 0 1 (accS seed) r.work n 0 = some k) (hv : blkE ⟨0, 1, accS seed, r.work, 0, []⟩ = 0) (hz : subE r chM0 ⟨0, 1, accS seed, r.work, k, []⟩ = 0) :
   Calls Tryz.prog 57 #[.pointer (some ⟨p, 0, none⟩), .int .i64 n] w fun e w' => ∃ (ma : Option Addr) (mc : Nat), e = .returned (.tuple #[.slice ma (sendM num num 2 (headS ⟨0, 1, accS seed, r.work, k, []⟩) nodes).length mc, .int .i64 0]) ∧ ∃ (ya : Option Addr) (yc pp : Nat), Fr (O := O) (ownA msgR 0 145 (.slice ma (sendM num num 2 (headS ⟨0, 1, accS seed, r.work, k, []⟩) nodes).length mc) (sendM num num 2 (headS ⟨0, 1, accS seed, r.work, k, []⟩) nodes) :: ndL p op r num nodes seed (subM r chM0 ⟨0, 1, accS seed, r.work, k, []⟩ ya yc) 1 { x with pp := pp }) G w0 w' := by
 have HF := Lib.hid hf; have HR := Lib.hid hr; have HMO := Lib.hid hmo; have HNO := Lib.hid hno; have HNU := Lib.hid hnu; have HS := Lib.hid hs; have HNT := Lib.hid hn; have HM := Lib.hid hm; have HV := Lib.hid hv; have HVK : Hid (blkE ⟨0, 1, accS seed, r.work, k, []⟩ = 0) := hv; have HZ := Lib.hid hz
 have HB0 : Hid (Bk0 0 1 (accS seed) r.work 0 none 0) := ⟨by decide, by decide, hashS_ok _ _, hw, by decide, fun _ => rfl, Nat.zero_le _⟩
 obtain ⟨x0, x1⟩ := box_cells (hf.box i0); obtain ⟨SB, PI, v, hch⟩ := chA_get hf i3; clear hf hr hmo hno hnu hs hw hn hm hv hz
 go_enter Tryz.func57, Tryz.ntmps57
 go_wp2_with fail
 refine (tip_any x.c SB PI w r chM0 (blksS chM0.L chM0.best) v hch (Nat.zero_le _)).mono ?_
 rintro e w3 ⟨rfl, hb3⟩; rw [show tipS chM0 = 0 from rfl, show (chM0.best.length : Int) = 0 from rfl]; have HF3 := Lib.hid (HF.out.keepB hb3); clear hb3 x0 x1 HF hch
 go_upto_region 4 with (fail)
 -- MARK1
 have HFwg00 := Lib.hid (HF3.out.drew); have hS0 : Hid ((Held [(p, (ndC op r num nodes seed x), 84)] []) w3.drew) := Held.keepB (⟨⟨HF3.out.box i0, trivial⟩, trivial⟩) (Below.refl _ _).drew
 refine wp_region_held_drew (S := (Held [(p, (ndC op r num nodes seed x), 84)] [])) (by kernel_rfl) hS0.out (fun hHeld => ?_)
 obtain ⟨wg0, hwd⟩ : ∃ x, w3.drew = x := ⟨_, rfl⟩; rw [hwd] at hHeld HFwg00 ⊢; have HFwg0 := HFwg00; clear hwd HFwg00 hS0
 go_simp
 refine tkV 0 rfl (fun wz hSz => by go_simp; all_goals with_reducible rfl) ?_
 go_simp
 refine tkV 1 rfl (fun wz hSz => by go_simp; all_goals with_reducible rfl) ?_
 go_simp
 refine tkV 2 rfl (fun wz hSz => by go_simp; all_goals with_reducible rfl) ?_
 go_simp
 refine tkV 3 rfl (fun wz hSz => by go_simp; all_goals with_reducible rfl) ?_
 go_simp
 refine tkV 5 rfl (fun wz hSz => by go_simp; all_goals with_reducible rfl) ?_
 go_simp
 refine tkV 6 rfl (fun wz hSz => by go_simp; all_goals with_reducible rfl) ?_
 go_simp
 refine tkV 7 rfl (fun wz hSz => by go_simp; all_goals with_reducible rfl) ?_
 go_simp
 refine tkV 8 rfl (fun wz hSz => by go_simp; all_goals with_reducible rfl) ?_
 go_simp
 refine tkV 9 rfl (fun wz hSz => by have cx := (box_cells hSz.b.1).1; go_simp; all_goals with_reducible rfl) ?_
 go_simp
 refine rd2 4 11 rfl rfl (fun K hK => ?_) (fun K hK => ?_)
 · skip
   go_simp
   refine (ndAccount_any wg0 (HFwg0.out.box i0) HS.out).mono ?_
   rintro E wg1 ⟨rfl, hb⟩; have HFwg1 := Lib.hid (HFwg0.out.keepB hb); clear hHeld hb
   refine hK.out _ _ (⟨⟨HFwg1.out.box i0, trivial⟩, trivial⟩) (fun hHeld => ?_)
   clear hK K
   go_simp
   refine tkV 10 rfl (fun wz hSz => by go_simp; all_goals with_reducible rfl) ?_
   go_simp
   refine rd1 11 rfl (fun K hK => ?_)
   go_simp
   have hfa := HFwg1.out.alloc #[.int .u64 0, .int .i64 0, .int .u64 0, .int .u64 0, .int .u64 0, .slice none 0 0] 177; obtain ⟨bk, hbn⟩ : ∃ x, wg1.heap.size = x := ⟨_, rfl⟩; rw [hbn] at hfa
   try rw [hbn]
   obtain ⟨wg2, hw⟩ : ∃ x, wg1.alloc (.cells #[.int .u64 0, .int .i64 0, .int .u64 0, .int .u64 0, .int .u64 0, .slice none 0 0] 177) = x := ⟨_, rfl⟩; rw [hw] at hfa ⊢; have HFwg2 := Lib.hid hfa; clear hHeld hfa hw hbn
   refine hK.out _ _ (⟨⟨HFwg2.out.box i1, trivial⟩, trivial⟩) (fun hHeld => ?_)
   clear hK K
   go_simp
   refine rd1 12 rfl (fun K hK => ?_)
   refine step_store_row rfl _ _ _ rfl (bk) _ rfl rfl _ _ (HFwg2.out.box i0) (by kernel_rfl) rfl (by kernel_rfl) ?_
   have hfa := HFwg2.out.setRow i0 #[.int .u64 0, .int .i64 1, .int .u64 (accS seed), .int .u64 r.work, .int .u64 0, .slice none 0 0]
   change K _ (wg2.setRow (bk) #[.int .u64 0, .int .i64 1, .int .u64 (accS seed), .int .u64 r.work, .int .u64 0, .slice none 0 0])
   obtain ⟨wg3, hw⟩ : ∃ x, wg2.setRow (bk) #[.int .u64 0, .int .i64 1, .int .u64 (accS seed), .int .u64 r.work, .int .u64 0, .slice none 0 0] = x := ⟨_, rfl⟩; rw [hw] at hfa ⊢; have HFwg3 := Lib.hid hfa; clear hHeld hfa hw
   refine hK.out _ _ (⟨⟨HFwg3.out.box i1, trivial⟩, trivial⟩) (fun hHeld => ?_)
   clear hK K
   go_simp
   clear hHeld
   refine wpAnyH_done (by kernel_rfl) ?_ _
   have HFK := HFwg3; obtain ⟨wK, hwk⟩ : ∃ z, wg3 = z := ⟨_, rfl⟩; rw [hwk] at HFK ⊢; clear hwk HFwg3; obtain ⟨x0, x1⟩ := box_cells (HFK.out.box i1); go_wp2_with fail
   refine (mpList_any wK x.pp (HFK.out.box i2)).mono ?_
   rintro e w5 ⟨la, lc, rfl, -, -, hb5⟩; have HF5 := Lib.hid (HFK.out.keepB hb5); clear x0 x1 hb5 HFK; go_wp2_with fail
   refine wp_loop_rounds 1 ?_
   rw [rounds_succ]
   go_wp2_with (refine wpList_load_row rfl _ _ rfl bk rfl _ _ _ _ (HF5.out.box i0) Tryz.underlying177 rfl (by kernel_rfl) ?_)
   refine (bkMine_any w5 0 1 (accS seed) r.work 0 none 0 HB0.out HV.out n HNT.out k HM.out).mono ?_
   rintro e w6 ⟨ya, yc, rfl, hbk, hb6⟩; have HBK := Lib.hid hbk; have HF6 := Lib.hid (HF5.out.keepB hb6); clear hbk hb6 HF5; have HF7 := Lib.hid (HF6.out.setRow i0 #[.int .u64 0, .int .i64 1, .int .u64 (accS seed), .int .u64 r.work, .int .u64 k, .slice ya 0 yc])
   -- MARK6
   go_upto_region 14 with (refine wpList_store_row rfl _ _ _ rfl bk _ rfl rfl _ _ (HF6.out.box i0) (by kernel_rfl) rfl (by kernel_rfl) ?_)
   obtain ⟨w7, hw7⟩ : ∃ z, w6.setRow bk #[.int .u64 0, .int .i64 1, .int .u64 (accS seed), .int .u64 r.work, .int .u64 k, .slice ya 0 yc] = z := ⟨_, rfl⟩; rw [hw7] at HF7 ⊢; have HF8 := HF7; clear hw7 HF7 HF6
   go_wp2_with (refine wpList_load_row rfl _ _ rfl bk rfl _ _ _ _ (HF8.out.box i0) Tryz.underlying177 rfl (by kernel_rfl) ?_)
   obtain ⟨G1, hg1, hcl⟩ := HF8.out.under; have HCL := Lib.hid hcl
   refine (ndSubmit_any hg1 HR.out HMO.out 0 (accS seed) r.work k ya yc HBK.out HZ.out).mono ?_
   rintro e w9 ⟨rfl, za, zc, pp, hf9⟩; have HF9 := Lib.hid (HCL.out _ _ hf9); clear hcl hf9 HCL hg1 HF8
   go_wp2_with (refine wpList_load_row rfl _ _ rfl bk rfl _ _ _ _ (HF9.out.box i0) Tryz.underlying177 rfl (by kernel_rfl) ?_)
   refine (bkEncode_any w9 0 1 (accS seed) r.work k ya yc HBK.out HVK.out).mono ?_
   rintro e wa ⟨ea, ec, rfl, hrb, hba⟩; have HFA := Lib.hid (HF9.out.keepB hba); have HRB := Lib.hid hrb; clear hrb hba HF9; obtain ⟨x0, x1⟩ := box_cells (HFA.out.box i1)
   -- MARK7
   go_wp2_with fail
   refine (ndSend_any wa (HFA.out.box i1) HNO.out HNU.out 2 num (by decide) ea 40 ec (headS ⟨0, 1, accS seed, r.work, k, []⟩) HRB.out (headS_len _) (by omega)).mono ?_
   rintro e wb ⟨ma, mc, rfl, hfm⟩
   have HFB := Lib.hid ((HFA.out.drop i0).new (A := ownA msgR 0 145 (.slice ma (sendM num num 2 (headS ⟨0, 1, accS seed, r.work, k, []⟩) nodes).length mc) (sendM num num 2 (headS ⟨0, 1, accS seed, r.work, k, []⟩) nodes)) hfm.below (Own.mono (hfm.get i0) fun k _ h => h.1.elim (fun h => h.elim) id))
   clear hfm HFA x0 x1; go_wp2_with fail; go_ret2
   exact ⟨ma, mc, rfl, za, zc, pp, HFB.out⟩
 · skip
   go_simp
   have hfa := HFwg0.out.alloc #[.int .u64 0, .int .i64 0, .int .u64 0, .int .u64 0, .int .u64 0, .slice none 0 0] 177; obtain ⟨bk, hbn⟩ : ∃ x, wg0.heap.size = x := ⟨_, rfl⟩; rw [hbn] at hfa
   try rw [hbn]
   obtain ⟨wg4, hw⟩ : ∃ x, wg0.alloc (.cells #[.int .u64 0, .int .i64 0, .int .u64 0, .int .u64 0, .int .u64 0, .slice none 0 0] 177) = x := ⟨_, rfl⟩; rw [hw] at hfa ⊢; have HFwg4 := Lib.hid hfa; clear hHeld hfa hw hbn
   refine hK.out _ _ (⟨⟨HFwg4.out.box i1, trivial⟩, trivial⟩) (fun hHeld => ?_)
   clear hK K
   go_simp
   refine rd1 4 rfl (fun K hK => ?_)
   go_simp
   refine (ndAccount_any wg4 (HFwg4.out.box i1) HS.out).mono ?_
   rintro E wg5 ⟨rfl, hb⟩; have HFwg5 := Lib.hid (HFwg4.out.keepB hb); clear hHeld hb
   refine hK.out _ _ (⟨⟨HFwg5.out.box i1, trivial⟩, trivial⟩) (fun hHeld => ?_)
   clear hK K
   go_simp
   refine tkV 10 rfl (fun wz hSz => by go_simp; all_goals with_reducible rfl) ?_
   go_simp
   refine rd1 12 rfl (fun K hK => ?_)
   refine step_store_row rfl _ _ _ rfl (bk) _ rfl rfl _ _ (HFwg5.out.box i0) (by kernel_rfl) rfl (by kernel_rfl) ?_
   have hfa := HFwg5.out.setRow i0 #[.int .u64 0, .int .i64 1, .int .u64 (accS seed), .int .u64 r.work, .int .u64 0, .slice none 0 0]
   change K _ (wg5.setRow (bk) #[.int .u64 0, .int .i64 1, .int .u64 (accS seed), .int .u64 r.work, .int .u64 0, .slice none 0 0])
   obtain ⟨wg6, hw⟩ : ∃ x, wg5.setRow (bk) #[.int .u64 0, .int .i64 1, .int .u64 (accS seed), .int .u64 r.work, .int .u64 0, .slice none 0 0] = x := ⟨_, rfl⟩; rw [hw] at hfa ⊢; have HFwg6 := Lib.hid hfa; clear hHeld hfa hw
   refine hK.out _ _ (⟨⟨HFwg6.out.box i1, trivial⟩, trivial⟩) (fun hHeld => ?_)
   clear hK K
   go_simp
   clear hHeld
   refine wpAnyH_done (by kernel_rfl) ?_ _
   have HFK := HFwg6; obtain ⟨wK, hwk⟩ : ∃ z, wg6 = z := ⟨_, rfl⟩; rw [hwk] at HFK ⊢; clear hwk HFwg6; obtain ⟨x0, x1⟩ := box_cells (HFK.out.box i1); go_wp2_with fail
   refine (mpList_any wK x.pp (HFK.out.box i2)).mono ?_
   rintro e w5 ⟨la, lc, rfl, -, -, hb5⟩; have HF5 := Lib.hid (HFK.out.keepB hb5); clear x0 x1 hb5 HFK; go_wp2_with fail
   refine wp_loop_rounds 1 ?_
   rw [rounds_succ]
   go_wp2_with (refine wpList_load_row rfl _ _ rfl bk rfl _ _ _ _ (HF5.out.box i0) Tryz.underlying177 rfl (by kernel_rfl) ?_)
   refine (bkMine_any w5 0 1 (accS seed) r.work 0 none 0 HB0.out HV.out n HNT.out k HM.out).mono ?_
   rintro e w6 ⟨ya, yc, rfl, hbk, hb6⟩; have HBK := Lib.hid hbk; have HF6 := Lib.hid (HF5.out.keepB hb6); clear hbk hb6 HF5; have HF7 := Lib.hid (HF6.out.setRow i0 #[.int .u64 0, .int .i64 1, .int .u64 (accS seed), .int .u64 r.work, .int .u64 k, .slice ya 0 yc])
   -- MARK6
   go_upto_region 14 with (refine wpList_store_row rfl _ _ _ rfl bk _ rfl rfl _ _ (HF6.out.box i0) (by kernel_rfl) rfl (by kernel_rfl) ?_)
   obtain ⟨w7, hw7⟩ : ∃ z, w6.setRow bk #[.int .u64 0, .int .i64 1, .int .u64 (accS seed), .int .u64 r.work, .int .u64 k, .slice ya 0 yc] = z := ⟨_, rfl⟩; rw [hw7] at HF7 ⊢; have HF8 := HF7; clear hw7 HF7 HF6
   go_wp2_with (refine wpList_load_row rfl _ _ rfl bk rfl _ _ _ _ (HF8.out.box i0) Tryz.underlying177 rfl (by kernel_rfl) ?_)
   obtain ⟨G1, hg1, hcl⟩ := HF8.out.under; have HCL := Lib.hid hcl
   refine (ndSubmit_any hg1 HR.out HMO.out 0 (accS seed) r.work k ya yc HBK.out HZ.out).mono ?_
   rintro e w9 ⟨rfl, za, zc, pp, hf9⟩; have HF9 := Lib.hid (HCL.out _ _ hf9); clear hcl hf9 HCL hg1 HF8
   go_wp2_with (refine wpList_load_row rfl _ _ rfl bk rfl _ _ _ _ (HF9.out.box i0) Tryz.underlying177 rfl (by kernel_rfl) ?_)
   refine (bkEncode_any w9 0 1 (accS seed) r.work k ya yc HBK.out HVK.out).mono ?_
   rintro e wa ⟨ea, ec, rfl, hrb, hba⟩; have HFA := Lib.hid (HF9.out.keepB hba); have HRB := Lib.hid hrb; clear hrb hba HF9; obtain ⟨x0, x1⟩ := box_cells (HFA.out.box i1)
   -- MARK7
   go_wp2_with fail
   refine (ndSend_any wa (HFA.out.box i1) HNO.out HNU.out 2 num (by decide) ea 40 ec (headS ⟨0, 1, accS seed, r.work, k, []⟩) HRB.out (headS_len _) (by omega)).mono ?_
   rintro e wb ⟨ma, mc, rfl, hfm⟩
   have HFB := Lib.hid ((HFA.out.drop i0).new (A := ownA msgR 0 145 (.slice ma (sendM num num 2 (headS ⟨0, 1, accS seed, r.work, k, []⟩) nodes).length mc) (sendM num num 2 (headS ⟨0, 1, accS seed, r.work, k, []⟩) nodes)) hfm.below (Own.mono (hfm.get i0) fun k _ h => h.1.elim (fun h => h.elim) id))
   clear hfm HFA x0 x1; go_wp2_with fail; go_ret2
   exact ⟨ma, mc, rfl, za, zc, pp, HFB.out⟩
end
end Go.Proofs.YtphacfkcifpobaaGreatDoor
/- Script: a node receives its first block. -/
namespace Go.Proofs.YtphacfkcifpobaaGreatDoor
open Go.ChangeShapes Go.WideShapes Go.ChangeAt Go.RowKit Go.Sort
theorem Fr.under2 {O : Nat → Prop} {F0 : Nat → Prop} {w0 w : World} {A : Asn O} {M : List (Asn O)} (h : Fr (A :: M) F0 w0 w) : ∃ G : Nat → Prop, (∀ k, G k → F0 k ∨ w0.heap.size ≤ k) ∧ Fr M G w w ∧ ∀ (M' : List (Asn O)) (w' : World), Fr M' G w w' → Fr (A :: M') F0 w0 w' := by
 have h1 : Fr [A, listA M] F0 w0 w := by
   obtain ⟨⟨F, ⟨G, a, b, c⟩, h2⟩, hk, hO⟩ := h
   exact ⟨⟨F, ⟨G, a, b, ⟨_, fun _ h => h, c, trivial⟩⟩, h2⟩, hk, hO⟩
 have hO : ∀ G : Nat → Prop, (∀ k, G k → (F0 k ∨ w0.heap.size ≤ k) ∧ k < w.heap.size) → ∀ k, O k → k < w.heap.size ∧ ¬ G k := fun G hG k ho => ⟨Nat.lt_of_lt_of_le (h.con k ho).1 h.kept.size, fun hg => (hG k hg).1.elim (h.con k ho).2 (Nat.not_le.2 (h.con k ho).1)⟩
 obtain ⟨G, hG, hM, -, hcl⟩ := h1.open i1
 refine ⟨G, fun k hk => (hG k hk).1, Fr.many hM (fun k hk => ⟨hk, (hG k hk).2⟩) (hO G hG), fun M' w' hf => ?_⟩
 obtain ⟨⟨F, ⟨G1, a, b, G2, c, d, -⟩, h3⟩, hk, hO⟩ := hcl (listA M') w' hf.all hf.kept
 exact ⟨⟨F, ⟨G1, a, b, SepL.mono d c⟩, h3⟩, hk, hO⟩
section
variable {O : Nat → Prop}
set_option maxHeartbeats 4000000 in
theorem ndRecvB_any {p op num nodes : Nat} {r : RuM} {seed : Int} {x : NdV} {G S : Nat → Prop} {w : World} (hf : Fr (O := O) (ndL p op r num nodes seed chM0 0 x) G w w) (hr : RuOK r) (hmo : r.mode = 2) (hno : nodes ≤ 64) (hnu : num ≤ 64) (frm : Nat) (a : Option Addr) (c : Nat) (bs : List Int) (hbs : bytesR.rel S w [.slice a 40 c] bs) (hS : ∀ k, S k → ¬ G k) (hl : bs.length = 40) (pa mi wk no : Int) (hbk : Bk0 pa 1 mi wk no none 0) (hd : decB bs = ([pa, 1, mi, wk, no, 0], true)) (hv : blkE ⟨pa, 1, mi, wk, no, []⟩ = 0) (hz : subE r chM0 ⟨pa, 1, mi, wk, no, []⟩ = 0) :
   Calls Tryz.prog 164 #[.pointer (some ⟨p, 0, none⟩), .agg #[.int .i64 2, .int .i64 frm, .int .i64 num, .slice a 40 c]] w fun e w' => ∃ (ma : Option Addr) (mc : Nat), e = .returned (.slice ma (sendM num frm 2 bs nodes).length mc) ∧ ∃ (ya : Option Addr) (yc pp : Nat), Fr (O := O) (ownA msgR 0 145 (.slice ma (sendM num frm 2 bs nodes).length mc) (sendM num frm 2 bs nodes) :: ndL p op r num nodes seed (subM r chM0 ⟨pa, 1, mi, wk, no, []⟩ ya yc) 1 { x with pp := pp }) G w w' := by
 have hfa := hf.alloc #[.int .i64 2, .int .i64 frm, .int .i64 num, .slice a 40 c] 145; have HF := Lib.hid hfa; have HR := Lib.hid hr; have HMO := Lib.hid hmo; have HNO := Lib.hid hno; have HNU := Lib.hid hnu; have HBS := Lib.hid hbs; have HSG := Lib.hid hS; have HL := Lib.hid hl; have HBK := Lib.hid hbk; have HDB := Lib.hid hd; have HV := Lib.hid hv; have HZ := Lib.hid hz; clear hf hfa hr hmo hno hnu hbs hS hl hbk hd hv hz
 go_enter Tryz.func164, Tryz.ntmps164
 go_upto_region 1 with (fail)
 obtain ⟨W, hW⟩ : ∃ z, w.alloc (.cells #[.int .i64 2, .int .i64 frm, .int .i64 num, .slice a 40 c] 145) = z := ⟨_, rfl⟩; obtain ⟨B, hB⟩ : ∃ z, w.heap.size = z := ⟨_, rfl⟩; rw [hW, hB] at HF; rw [hW, hB]; have HFW := HF; clear hW hB HF; obtain ⟨x0, x1⟩ := box_cells (HFW.out.box i0); go_wp2_with fail
 refine (bkDecode_any S W a c bs (bytesR.keep HBS.out (HFW.out.kept.mono fun k _ h => HSG.out k h)) HL.out pa 1 mi wk no HBK.out HDB.out HV.out).mono ?_
 rintro e w1 ⟨rfl, hb1⟩; have HF1 := Lib.hid ((HFW.out.keepB hb1).alloc #[.int .u64 pa, .int .i64 1, .int .u64 mi, .int .u64 wk, .int .u64 no, .slice none 0 0] 177); clear hb1 x0 x1 HFW
 go_upto_region 2 with (fail)
 obtain ⟨w2, hw2⟩ : ∃ z, w1.alloc (.cells #[.int .u64 pa, .int .i64 1, .int .u64 mi, .int .u64 wk, .int .u64 no, .slice none 0 0] 177) = z := ⟨_, rfl⟩; obtain ⟨X, hX⟩ : ∃ z, w1.heap.size = z := ⟨_, rfl⟩; rw [hw2, hX] at HF1; rw [hw2, hX]; have HF2 := HF1; clear hw2 hX HF1
 go_wp2_with (refine wpList_load_row rfl _ _ rfl X rfl _ _ _ _ (HF2.out.box i0) Tryz.underlying177 rfl (by kernel_rfl) ?_)
 obtain ⟨G1, hg1, hcl⟩ := HF2.out.under; obtain ⟨G2, hg2, hcl2⟩ := hg1.under; have HCL := Lib.hid hcl; have HCL2 := Lib.hid hcl2
 refine (ndSubmit_any hg2 HR.out HMO.out pa mi wk no none 0 HBK.out HZ.out).mono ?_
 rintro e w3 ⟨rfl, ya, yc, pp, hf3⟩; have HF3 := Lib.hid (HCL.out _ _ (HCL2.out _ _ hf3)); clear hcl hcl2 hf3 HCL HCL2 hg1 hg2 HF2; obtain ⟨x0, x1⟩ := box_cells (HF3.out.box i1)
 -- MARK3
 go_wp2_with fail
 refine (ndSend_any w3 (HF3.out.box i2) HNO.out HNU.out 2 frm (by decide) a 40 c bs (bytesR.keep HBS.out (HF3.out.kept.mono fun k _ h => HSG.out k h)) HL.out (by omega)).mono ?_
 rintro e w4 ⟨ma, mc, rfl, hfm⟩
 have HF4 := Lib.hid (((HF3.out.drop i0).drop i0).new (A := ownA msgR 0 145 (.slice ma (sendM num frm 2 bs nodes).length mc) (sendM num frm 2 bs nodes)) hfm.below (Own.mono (hfm.get i0) fun k _ h => h.1.elim (fun h => h.elim) id))
 clear hfm HF3 x0 x1; go_wp2_with fail; go_ret
 exact ⟨ma, mc, rfl, ya, yc, pp, HF4.out⟩
set_option maxHeartbeats 4000000 in
theorem ndRecv_any {p op num nodes : Nat} {r : RuM} {seed : Int} {x : NdV} {G S : Nat → Prop} {w : World} (hf : Fr (O := O) (ndL p op r num nodes seed chM0 0 x) G w w) (hr : RuOK r) (hmo : r.mode = 2) (hno : nodes ≤ 64) (hnu : num ≤ 64) (frm : Nat) (a : Option Addr) (c : Nat) (bs : List Int) (hbs : bytesR.rel S w [.slice a 40 c] bs) (hS : ∀ k, S k → ¬ G k) (hl : bs.length = 40) (pa mi wk no : Int) (hbk : Bk0 pa 1 mi wk no none 0) (hd : decB bs = ([pa, 1, mi, wk, no, 0], true)) (hv : blkE ⟨pa, 1, mi, wk, no, []⟩ = 0) (hz : subE r chM0 ⟨pa, 1, mi, wk, no, []⟩ = 0) (hfn : frm < nodes ∧ frm ≠ num) :
   Calls Tryz.prog 105 #[.pointer (some ⟨p, 0, none⟩), .agg #[.int .i64 2, .int .i64 frm, .int .i64 num, .slice a 40 c]] w fun e w' => ∃ (ma : Option Addr) (mc : Nat), e = .returned (.slice ma (sendM num frm 2 bs nodes).length mc) ∧ ∃ (ya : Option Addr) (yc pp : Nat), Fr (O := O) (ownA msgR 0 145 (.slice ma (sendM num frm 2 bs nodes).length mc) (sendM num frm 2 bs nodes) :: ndL p op r num nodes seed (subM r chM0 ⟨pa, 1, mi, wk, no, []⟩ ya yc) 1 { x with pp := pp }) G w w' := by
 have hfa := hf.alloc #[.int .i64 2, .int .i64 frm, .int .i64 num, .slice a 40 c] 145; have HF := Lib.hid hfa; have HR := Lib.hid hr; have HMO := Lib.hid hmo; have HNO := Lib.hid hno; have HNU := Lib.hid hnu; have HBS := Lib.hid hbs; have HSG := Lib.hid hS; have HL := Lib.hid hl; have HBK := Lib.hid hbk; have HDB := Lib.hid hd; have HV := Lib.hid hv; have HZ := Lib.hid hz; have HFN := Lib.hid hfn; clear hf hfa hr hmo hno hnu hbs hS hl hbk hd hv hz hfn
 go_enter Tryz.func105, Tryz.ntmps105
 go_upto_region 1 with (fail)
 obtain ⟨W, hW⟩ : ∃ z, w.alloc (.cells #[.int .i64 2, .int .i64 frm, .int .i64 num, .slice a 40 c] 145) = z := ⟨_, rfl⟩; obtain ⟨B, hB⟩ : ∃ z, w.heap.size = z := ⟨_, rfl⟩; rw [hW, hB] at HF; rw [hW, hB]; have HFW := HF; clear hW hB HF; have HFwg00 := Lib.hid (HFW.out.drew); have hS0 : Hid ((Held [(B, #[.int .i64 2, .int .i64 frm, .int .i64 num, .slice a 40 c], 145), (p, (ndC op r num nodes seed x), 84)] []) W.drew) := Held.keepB (⟨⟨HFW.out.box i0, HFW.out.box i1, trivial⟩, trivial⟩) (Below.refl _ _).drew
 refine wp_region_held_drew (S := (Held [(B, #[.int .i64 2, .int .i64 frm, .int .i64 num, .slice a 40 c], 145), (p, (ndC op r num nodes seed x), 84)] [])) (by kernel_rfl) hS0.out (fun hHeld => ?_)
 obtain ⟨wg0, hwd⟩ : ∃ x, W.drew = x := ⟨_, rfl⟩; rw [hwd] at hHeld HFwg00 ⊢; have HFwg0 := HFwg00; clear hwd HFwg00 hS0
 go_simp
 refine tkV 0 rfl (fun wz hSz => by go_simp; all_goals with_reducible rfl) ?_
 go_simp
 refine tkV 1 rfl (fun wz hSz => by have cx := (box_cells hSz.b.1).1; go_simp; all_goals with_reducible rfl) ?_
 go_simp
 refine tkV 2 rfl (fun wz hSz => by go_simp; all_goals with_reducible rfl) ?_
 go_simp
 refine tkV 3 rfl (fun wz hSz => by go_simp; all_goals with_reducible rfl) ?_
 go_simp
 refine tkV 4 rfl (fun wz hSz => by go_simp; all_goals with_reducible rfl) ?_
 go_simp
 refine tkV 5 rfl (fun wz hSz => by have cx := (box_cells hSz.b.2.1).1; go_simp; all_goals with_reducible rfl) ?_
 go_simp
 refine tkV 6 rfl (fun wz hSz => by go_simp; all_goals with_reducible rfl) ?_
 go_simp
 refine tkV 7 rfl (fun wz hSz => by go_simp; all_goals with_reducible rfl) ?_
 go_simp
 refine tkV 8 rfl (fun wz hSz => by go_simp; all_goals with_reducible rfl) ?_
 go_simp
 refine tkV 9 rfl (fun wz hSz => by go_simp; all_goals with_reducible rfl) ?_
 go_simp
 refine tkV 10 rfl (fun wz hSz => by have cx := (box_cells hSz.b.1).1; go_simp; all_goals with_reducible rfl) ?_
 go_simp
 refine rd1 11 rfl (fun K hK => ?_)
 go_simp
 refine (ndOther_any wg0 (HFwg0.out.box i1) frm HFN.out.1 HFN.out.2).mono ?_
 rintro E wg1 ⟨rfl, hb⟩; have HFwg1 := Lib.hid (HFwg0.out.keepB hb); clear hHeld hb
 refine hK.out _ _ (⟨⟨HFwg1.out.box i0, HFwg1.out.box i1, trivial⟩, trivial⟩) (fun hHeld => ?_)
 clear hK K
 go_simp
 refine tkV 12 rfl (fun wz hSz => by go_simp; all_goals with_reducible rfl) ?_
 go_simp
 refine tkV 13 rfl (fun wz hSz => by go_simp; all_goals with_reducible rfl) ?_
 go_simp
 clear hHeld
 refine wpAnyH_done (by kernel_rfl) ?_ _
 have HFK := HFwg1; obtain ⟨wK, hwk⟩ : ∃ z, wg1 = z := ⟨_, rfl⟩; rw [hwk] at HFK ⊢; clear hwk HFwg1
 -- MARK5
 obtain ⟨x0, x1⟩ := box_cells (HFK.out.box i0)
 go_wp2_with (refine wpList_load_row rfl _ _ rfl B rfl _ _ _ _ (HFK.out.box i0) Tryz.underlying145 rfl (by kernel_rfl) ?_)
 obtain ⟨G1, hG1, hg1, hcl⟩ := HFK.out.under2; have HCL := Lib.hid hcl
 refine (ndRecvB_any (S := fun k => S k ∧ k < w.heap.size) hg1 HR.out HMO.out HNO.out HNU.out frm a c bs (bytesR.keep (bytesR.bound HBS.out) (HFK.out.kept.mono fun k _ h => HSG.out k h.1)) (fun k hk hg => (hG1 k hg).elim (HSG.out k hk.1) (Nat.not_le.2 hk.2)) HL.out pa mi wk no HBK.out HDB.out HV.out HZ.out).mono ?_
 rintro e w3 ⟨ma, mc, rfl, ya, yc, pp, hf3⟩; have HF3 := Lib.hid ((HCL.out _ _ hf3).drop i0); clear hf3 hcl HCL HFK hg1 x0 x1; go_wp2_with fail; go_ret
 exact ⟨ma, mc, rfl, ya, yc, pp, HF3.out⟩
end
end Go.Proofs.YtphacfkcifpobaaGreatDoor
