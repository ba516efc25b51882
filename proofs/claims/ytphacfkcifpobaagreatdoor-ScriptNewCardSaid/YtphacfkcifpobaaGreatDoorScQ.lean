/- Script: the examples of the chapter. -/
import Derived.Test.YtphacfkcifpobaaGreatDoorM28
import Derived.Test.YtphacfkcifpobaaGreatDoorSxF
set_option maxRecDepth 100000
namespace Go.Proofs.YtphacfkcifpobaaGreatDoor
open Go.ChangeShapes Go.WideShapes Go.ChangeAt Go.RowKit Go.Sort
theorem OrIn.of_at {p : Nat} {w : World} (h : OrAt false 0 p w) (N : Nat) (hN : w.heap.size ≤ N) : OrIn (fun k => k < N) p w := (OrAt.in' h).mono fun _ h => Nat.lt_of_lt_of_le h hN
section
variable {O : Nat → Prop} {L E : List (Asn O)} {f : Asn O → List (Asn O)} {F0 : Nat → Prop} {w0 w : World}
theorem Fr.node {p op num nodes h : Nat} {r : RuM} {seed : Int} {m : ChM} {x : NdV} (hf : Fr L F0 w0 w) (ix : In L (listA (ndL p op r num nodes seed m h x)) f E) : w.heap[p]? = some (.cells (ndC op r num nodes seed x) 84 (0, 0)) :=
 (hf.burst ix).box i0
theorem Fr.tip {p op num nodes h : Nat} {r : RuM} {seed : Int} {m : ChM} {x : NdV} (hf : Fr L F0 w0 w) (ix : In L (listA (ndL p op r num nodes seed m h x)) f E) (hl : m.best.length ≤ 100000) : Calls Tryz.prog 18 #[.pointer (some ⟨x.c, 0, none⟩)] w fun e w' => e = .returned (.tuple #[.int .u64 (tipS m), .int .i64 m.best.length]) ∧ Below w.heap.size w w' :=
 tip_fr (hf.burst ix) i3 hl
theorem Fr.ptrAt {na : Option Addr} {n nc : Nat} {ps : List Nat} (hf : Fr L F0 w0 w) (ix : In L (ownA ptrR 0 45 (.slice na n nc) ps) f E) (hn : n = ps.length) : ∀ k (h : k < ps.length), ∃ b off, na = some ⟨b, off, none⟩ ∧ w.cell? ⟨b, off + k, none⟩ = some (.pointer (some ⟨ps[k], 0, none⟩)) ∧ b < w.heap.size := by
 subst hn
 intro k hk
 obtain ⟨b, off, es, rfl, -, hlt, hes, hc⟩ := sliceR.at (Own.slice (hf.get ix)) k hk
 refine ⟨b, off, rfl, ?_, hlt⟩
 have h0 := hc 0 (.pointer (some ⟨ps[k], 0, none⟩)) (by rw [show es = [.pointer (some ⟨ps[k], 0, none⟩)] from hes]; rfl)
 rw [show ptrR.n = 1 from rfl] at h0
 simpa using h0
end
theorem ruleE_ok' {r : RuM} (h : ruleE r = 0) (hr : okU r.rew) : RuOK r := ruleE_ok h hr
abbrev blkX (sd : Int) (r : RuM) : BlkM := ⟨0, 1, accS sd, r.work, 0, []⟩
theorem ev_blkX : blkX 676269814664980025 r54 = blk54 := by unfold blkX; rw [ev_acc]; rfl
set_option maxHeartbeats 4000000 in
theorem awake54_any (hp54 : Parse54) (w : World) (ht : TxtAt w) : Calls Tryz.prog 4 #[] w fun e w' => e = .returned (.bool true) ∧ Below w.heap.size w w' := by
 have HT := Lib.hid ht; have HP54 := Lib.hid hp54; clear ht hp54
 go_enter Tryz.func4, Tryz.ntmps4
 go_wp2_with fail
 refine (HP54.out w HT.out).mono ?_
 rintro e w1 ⟨la, lc, rfl, hl, hb1⟩; have HL := Lib.hid hl; have HB1 := Lib.hid hb1; clear hl hb1; go_wp2_with fail
 refine (real_any w1).mono ?_
 rintro e w2 ⟨op, rfl, -, hor, hb2⟩; have HOR := Lib.hid hor; have HB2 : Hid (Below w.heap.size w w2) := bnext HB1.out hb2; have HL2 := Lib.hid ((sliceR stR).keepB HL.out hb2); clear hor hb2 HB1 HL; go_wp2_with fail
 refine (rules54_any w2).mono ?_
 rintro e w3 ⟨rfl, hb3⟩; have HB3 : Hid (Below w.heap.size w w3) := bnext HB2.out hb3; have HL3 := Lib.hid ((sliceR stR).keepB HL2.out hb3); have HO3 := Lib.hid (HOR.out.keepB hb3); clear hb3 HB2 HL2 HOR HT
 have HF0 : Hid (Fr (O := fun k => k < w3.heap.size) [] (fun _ => False) w3 w3) := Fr.nil _ _ fun k h => ⟨h, fun h => h⟩
 go_wp2_with fail
 refine (scNew_any HF0.out op false 0 HO3.out (fun _ => rfl) r54 (fun _ => OrIn.of_at HO3.out _ (Nat.le_refl _)) (okU_of (by decide) (by decide)) ev_rule rfl 2 (by omega) (by omega) 1 (okU_of (by decide) (by decide))).mono ?_
 rintro e w4 ⟨p, np, ps, na, nc, rfl, hlen, hf⟩
 obtain ⟨q0, q1, rfl⟩ : ∃ q0 q1, ps = [q0, q1] := by
   match ps, hlen with
   | [a, b], _ => exact ⟨a, b, rfl⟩
 have hm1 : (1 : Int) % 18446744069414584321 = 1 := rfl; rw [hm1] at hf; have hs0 : hashS 8 [1, ((0 : Nat) : Int)] = 676269814664980025 := ev_seed.1; have hs1 : hashS 8 [1, ((0 + 1 : Nat) : Int)] = 16017152987497229402 := ev_seed.2
 have hns : nsA (O := fun k => k < w3.heap.size) op r54 2 1 0 [q0, q1] = [ndA q0 op r54 0 2 676269814664980025 chM0 0, ndA q1 op r54 1 2 16017152987497229402 chM0 0] := by
   show [ndA q0 op r54 0 2 (hashS 8 [1, ((0 : Nat) : Int)]) chM0 0, ndA q1 op r54 (0 + 1) 2 (hashS 8 [1, ((0 + 1 : Nat) : Int)]) chM0 0] = _
   rw [hs0, hs1]
 rw [hns] at hf; have hf1 := hf.burst (.s i4); obtain ⟨x0, hf2⟩ := hf1.pick i0; obtain ⟨x1, hf3⟩ := hf2.pick i1; have hf4 := ((((hf3.front i6).front i6).front i6).front i6).front i6
 have HF4 : Hid (Fr (O := fun k => k < w3.heap.size) (scL p op 1 [q0, q1] [] [] [] ⟨na, nc, np, none, 0, none, 0⟩ [listA (ndL q0 op r54 0 2 676269814664980025 chM0 0 x0), listA (ndL q1 op r54 1 2 16017152987497229402 chM0 0 x1)]) (fun _ => False) w3 w4) := hf4
 clear hf hf1 hf2 hf3 hf4 hns hs0 hs1 hm1 hlen HF0 HO3; have HL4 := Lib.hid ((sliceR stR).keepB HL3.out HF4.out.below); obtain ⟨x0c, x1c⟩ := box_cells (HF4.out.box i0)
 obtain ⟨bl, ol, es, hla, -, hltl, ⟨bv, hes, hbv⟩, hcl⟩ := sliceR.at HL4.out 0 (by simp)
 rw [hla] at HL4 HL3
 have HRO : Hid (RuOK r54) := ruleE_ok' ev_rule (okU_of (by decide) (by decide))
 have HM1 : Hid (mineB 0 1 (accS 676269814664980025) r54.work 100 0 = some 0) := by show _ = _; rw [ev_acc]; exact ev_mine
 have HM2 : Hid (blkE (blkX 676269814664980025 r54) = 0) := (congrArg blkE ev_blkX).trans ev_blk; have HM3 : Hid (subE r54 chM0 (blkX 676269814664980025 r54) = 0) := (congrArg (subE r54 chM0) ev_blkX).trans ev_sub
 have HM4 : Hid (sendM 0 (0 : Nat) 2 (headS (blkX 676269814664980025 r54)) 2 = [⟨2, 0, 1, bytes54⟩]) := by show _ = _; rw [ev_blkX, ev_head]; exact ev_send0
 subst hes
 have k0 : w4.cell? ⟨bl, ol, none⟩ = some (.int .i64 1) := by simpa [step54] using hcl 0 _ rfl
 have k1 : w4.cell? ⟨bl, ol + 1, none⟩ = some (.int .i64 0) := by simpa [step54] using hcl 1 _ rfl
 have k2 : w4.cell? ⟨bl, ol + 2, none⟩ = some (.int .i64 0) := by simpa [step54] using hcl 2 _ rfl
 have k3 : w4.cell? ⟨bl, ol + 3, none⟩ = some (.int .i64 0) := by simpa [step54] using hcl 3 _ rfl
 have k4 : w4.cell? ⟨bl, ol + 4, none⟩ = some (.int .u64 100) := by simpa [step54] using hcl 4 _ rfl
 have k5 : w4.cell? ⟨bl, ol + 5, none⟩ = some (.int .u64 0) := by simpa [step54] using hcl 5 _ rfl
 have k6 : w4.cell? ⟨bl, ol + 6, none⟩ = some bv := by simpa [step54] using hcl 6 _ rfl
 clear hcl hbv
 -- MARK1
 go_wp2_with fail
 -- MARK2
 refine (stepMine (m := ⟨2, 0, 1, bytes54⟩) (q := q0) (num := 0) HF4.out i0 rfl 0 0 0 bv (okU_of (by decide) (by decide)) (Nat.zero_le _) HRO.out rfl (by omega) (by omega) (okU_of (by decide) (by decide)) (okU_of (by decide) (by decide)) 0 HM1.out HM2.out HM3.out HM4.out ev_fits (Nat.zero_le _) (by rw [ev_len]; omega)).mono ?_
 rintro e w5 ⟨rfl, ya, yc, pp, X5, hf5⟩
 generalize hy0 : ({ x0 with pp := pp } : NdV) = y0 at hf5
 have HF5 : Hid (Fr (O := fun k => k < w3.heap.size) (scL p op 1 [q0, q1] [0] [⟨2, 0, 1, bytes54⟩] [⟨2, 0, 1, bytes54⟩] X5 [listA (ndL q0 op r54 0 2 676269814664980025 (subM r54 chM0 blk54 ya yc) 1 y0), listA (ndL q1 op r54 1 2 16017152987497229402 chM0 0 x1)]) (fun _ => False) w3 w5) := by rw [← ev_blkX]; exact hf5
 clear hf5 hy0 k0 k1 k2 k3 k4 k5 k6 x0c x1c HF4 HM1 HM2 HM3 HM4 HL4 HL3 hltl hla; have HM2 : Hid (blkE ⟨0, 1, 3079367878930651904, 2, 0, []⟩ = 0) := ev_blk; have HM3 : Hid (subE r54 chM0 ⟨0, 1, 3079367878930651904, 2, 0, []⟩ = 0) := ev_sub; go_wp2_with fail
 -- MARK3
 refine (stepDeliver (q := q1) (num := 1) (frm := 0) HF5.out i1 rfl 0 0 0 0 0 (.slice none 0 0) (by simp) ev_take.1 bytes54 ev_take.2.1 HRO.out rfl (by omega) (by omega) ev_len 0 3079367878930651904 2 0 ev_bk ev_dec HM2.out HM3.out ⟨by omega, by omega⟩ ev_send1).mono ?_
 rintro e w6 ⟨rfl, za, zc, pp2, X6, hf6⟩
 generalize hy1 : ({ x1 with pp := pp2 } : NdV) = y1 at hf6
 have HF6 : Hid (Fr (O := fun k => k < w3.heap.size) (scL p op 1 [q0, q1] [0, 0] [⟨2, 0, 1, bytes54⟩] [] X6 [listA (ndL q0 op r54 0 2 676269814664980025 (subM r54 chM0 blk54 ya yc) 1 y0), listA (ndL q1 op r54 1 2 16017152987497229402 (subM r54 chM0 blk54 za zc) 1 y1)]) (fun _ => False) w3 w6) := hf6
 clear hf6 hy1 HF5 HM2 HM3; go_wp2_with fail
 -- MARK4
 refine (doPay_bad HF6.out (by simp) 0 5 (by simp) (by simp) 0 1 0 (.slice none 0 0)).mono ?_
 rintro e w7 ⟨rfl, la7, lc7, hf7⟩
 have HF7 : Hid (Fr (O := fun k => k < w3.heap.size) (scL p op 1 [q0, q1] [0, 0, 1] [⟨2, 0, 1, bytes54⟩] [] { X6 with la := la7, lc := lc7 } [listA (ndL q0 op r54 0 2 676269814664980025 (subM r54 chM0 blk54 ya yc) 1 y0), listA (ndL q1 op r54 1 2 16017152987497229402 (subM r54 chM0 blk54 za zc) 1 y1)]) (fun _ => False) w3 w7) := hf7
 clear hf7 HF6 HRO
 generalize ({ X6 with la := la7, lc := lc7 } : ScV) = X7 at HF7
 obtain ⟨na7, nc7, np7, la7, lc7, sa7, sc7⟩ := X7
 obtain ⟨bn, on, hna, -, -⟩ := HF7.out.ptrAt i1 rfl 0 (by simp)
 subst hna; have hT0 := (ev_tip ya yc); have hT1 := (ev_tip za zc); have HT0 := Lib.hid hT0; have HT1 := Lib.hid hT1; clear hT0 hT1
 have node : ∀ (W : World), Fr (O := fun k => k < w3.heap.size) (scL p op 1 [q0, q1] [0, 0, 1] [⟨2, 0, 1, bytes54⟩] [] ⟨some ⟨bn, on, none⟩, nc7, np7, la7, lc7, sa7, sc7⟩ [listA (ndL q0 op r54 0 2 676269814664980025 (subM r54 chM0 blk54 ya yc) 1 y0), listA (ndL q1 op r54 1 2 16017152987497229402 (subM r54 chM0 blk54 za zc) 1 y1)]) (fun _ => False) w3 W → W.cell? ⟨bn, on, none⟩ = some (.pointer (some ⟨q0, 0, none⟩)) ∧ W.cell? ⟨bn, on + 1, none⟩ = some (.pointer (some ⟨q1, 0, none⟩)) := by
   intro W hW
   obtain ⟨b, o, e0, c0, -⟩ := hW.ptrAt i1 rfl 0 (by simp)
   obtain ⟨b', o', e1, c1, -⟩ := hW.ptrAt i1 rfl 1 (by simp)
   cases e0
   cases e1
   exact ⟨by simpa using c0, by simpa using c1⟩
 have HN := Lib.hid node; clear node; obtain ⟨x0c, x1c⟩ := box_cells (HF7.out.box i0); obtain ⟨n0, n1⟩ := HN.out _ HF7.out
 -- MARK5
 go_wp2_with fail
 -- MARK6
 refine (ndChain_any w7 (HF7.out.node i5)).mono ?_
 rintro e w8 ⟨rfl, hb8⟩; have HF8 := Lib.hid (HF7.out.keepB hb8); clear hb8 HF7 x0c x1c n0 n1; go_wp2_with fail
 refine (HF8.out.tip i5 (by rw [HT0.out.2]; omega)).mono ?_
 rintro e w9 ⟨rfl, hb9⟩; rw [HT0.out.1, HT0.out.2]; have HF9 := Lib.hid (HF8.out.keepB hb9); clear hb9 HF8; obtain ⟨x0c, x1c⟩ := box_cells (HF9.out.box i0); obtain ⟨n0, n1⟩ := HN.out _ HF9.out; go_wp2_with fail
 -- MARK7
 refine (ndChain_any w9 (HF9.out.node i6)).mono ?_
 rintro e w10 ⟨rfl, hb10⟩; have HF10 := Lib.hid (HF9.out.keepB hb10); clear hb10 HF9 x0c x1c n0 n1; go_wp2_with fail
 refine (HF10.out.tip i6 (by rw [HT1.out.2]; omega)).mono ?_
 rintro e w11 ⟨rfl, hb11⟩; rw [HT1.out.1, HT1.out.2]; have HF11 := Lib.hid (HF10.out.keepB hb11); clear hb11 HF10; obtain ⟨x0c, x1c⟩ := box_cells (HF11.out.box i0)
 -- MARK8
 go_wp2_with fail; go_ret
 exact ⟨rfl, bnext HB3.out HF11.out.below⟩
end Go.Proofs.YtphacfkcifpobaaGreatDoor
