/- The example of the laws of chains: awake. -/
import Derived.Test.YtjknlhiimmbilaaGreatDoorMLw
import Derived.Test.YtjknlhiimmbilaaGreatDoorLwB
import Derived.Test.YtjknlhiimmbilaaGreatDoorR47
import Derived.Test.YtjknlhiimmbilaaGreatDoorMPoC
set_option maxRecDepth 100000
set_option maxHeartbeats 2000000
namespace Go.Proofs.YtjknlhiimmbilaaGreatDoor
open Go.ChangeShapes Go.WideShapes Go.ChangeAt Go.RowKit Go.Sort
theorem submit_aw (c:Nat)(SB PI:Nat→Prop)(w:World)(m:ChM)(v:ChV)(hat:ChAt c SB PI w aR m (blksS m.L m.best) v)(ok:ChOK aR m)(hn:m.L.length≤100)(p h mi:Int)(hp:okU p)(hh:okI h)(hmi:okU mi):
   Calls Tryz.prog 18 #[.pointer (some ⟨c,0,none⟩),.agg #[.int .u64 p,.int .i64 h,.int .u64 mi,.int .u64 1,.int .u64 0,.slice none 0 0]] w (SubOut c SB PI v w aR m ⟨p,h,mi,1,0,[]⟩):=
 submit_any c SB PI w aR aw_rules rfl m v hat ok hn (fun _=>False) ⟨p,h,mi,1,0,[]⟩ none 0 (BlkIn.empty _ _ hp hh hmi (by decide)) (fun k h=>h.elim) (fun t ht=>by simp at ht)
theorem rID_aw (w:World)(p h mi:Int)(hp:okU p)(hh:okI h)(hmi:okU mi):
   Calls Tryz.prog 25 #[.agg #[.int .u64 p,.int .i64 h,.int .u64 mi,.int .u64 1,.int .u64 0,.slice none 0 0]] w fun e w'=>e= .returned (.int .u64 (blkID ⟨p,h,mi,1,0,[]⟩))∧Below w.heap.size w w':=
 rblkID_any (fun _=>False) w ⟨p,h,mi,1,0,[]⟩ none 0 (BlkIn.empty _ _ hp hh hmi (by decide))
theorem aw_id (k:Nat)(hk:k<3):blkID ⟨pid k,(k:Int)+1,5,1,0,[]⟩=pid (k+1):=by
 match k,hk with
 |0,_=>exact aw_id0
 |1,_=>exact aw_id1
 |2,_=>exact aw_id2
theorem awake48_any (w:World):Calls Tryz.prog 7 #[] w fun e w'=>e= .returned (.bool true)∧Below w.heap.size w w':=by
 go_enter Tryz.func7,Tryz.ntmps7
 go_wp2_with fail
 refine(real_any w).mono ?_
 rintro e w1 ⟨op,rfl, -,ho,hb1⟩;have HO:=Hd ho;clear ho;go_wp2_with fail
 refine(rules48_any w1).mono ?_
 rintro e w2 ⟨rfl,hb2⟩;go_wp2_with fail
 refine(chNew_any w2 op false 0 (HO.out.keepB hb2) (fun _=>rfl) aR (by decide)).mono ?_
 rintro e w3 ⟨hq, -⟩;obtain⟨c,PI,v,rfl,hat,hmu,hpi,hb3⟩:=hq aw_newE;have HAT:=Hd hat;have HB3:=Hd (bnext (bnext hb1 hb2) hb3)
 have HMU:Hid (∀k,ChMut c v k→w.heap.size≤k):=fun k hk=>Nat.le_trans (bnext hb1 hb2).size (hmu k hk)
 clear hat hmu hpi hb1 hb2 hb3 hq HO;go_wp2_with fail
 go_loopw [3,28] (fun v3 v28 wr=> ∃(k:Nat) (m:ChM) (SB PI:Nat→Prop) (v:ChV),k≤3∧v28= .int .i64 k∧v3= .int .u64 (pid k)∧Hid (AwS k m)∧Hid (ChOK aR m)∧Hid (m.L.length≤k)∧Hid (ChAt c SB PI wr aR m (blksS m.L m.best) v)∧Hid (∀j,ChMut c v j→w.heap.size≤j)∧Hid (Below w.heap.size w wr)) (fun _ vi _=>3-(intOf vi).toNat)
 case atStart=>exact⟨0,⟨[],[],0,0⟩,_,PI,v,by omega,rfl,rfl,rfl,newCh_ok aR,Nat.le_refl _,HAT,HMU,HB3⟩
 case round=>
   clear HAT HMU HB3;obtain⟨k,m,SB,PI,v,hk,rfl,rfl,HAW,HOK,HLN,HAT,HMU,HBR⟩:=hrel
   by_cases h3:k<3
   · have hbn:=bnew (Below.refl wr.heap.size wr) (.cells #[.int .u64 (pid k),.int .i64 ((k:Int)+1),.int .u64 5,.int .u64 1,.int .u64 0,.slice none 0 0] 48)
     have HX:=Hd (box_new wr (.cells #[.int .u64 (pid k),.int .i64 ((k:Int)+1),.int .u64 5,.int .u64 1,.int .u64 0,.slice none 0 0] 48));have HA1:=Hd (HAT.out.keepB hbn);have HB1:=Hd (bnext HBR.out hbn)
     have HNM:Hid (¬ChMut c v wr.heap.size):=fun hm=>Nat.lt_irrefl _ (HAT.out.mut_lt _ hm)
     have hpk:=aw_pid k;have hpk1:=aw_pid (k+1);have HST:=Hd (aw_step k h3 m HAW.out);have HID:=Hd (aw_id k h3);clear hbn HAT HAW
     go_upto_region 9 with(fail)
     generalize wr.alloc (.cells #[.int .u64 (pid k),.int .i64 ((k:Int)+1),.int .u64 5,.int .u64 1,.int .u64 0,.slice none 0 0] 48)=wn at*;obtain⟨X,hX⟩: ∃X,wr.heap.size=X:=⟨_,rfl⟩;rw [hX]at HX HNM⊢;clear hX HBR;obtain⟨x0,x1⟩:=box_cells HX.out;obtain⟨q,hq⟩: ∃q,pid k=q:=⟨_,rfl⟩;have HQ:=Hd hq;rw [hq]at HX x0 hpk HID⊢;clear hq;go_wp2_with fail
     refine(submit_aw c SB PI wn m v HA1.out HOK.out (by have:=HLN.out;omega) q ((k:Int)+1) 5 hpk (by exact okI_of (by omega) (by omega)) (by decide)).mono ?_
     rintro e w4 hso
     have HE:Hid (aB k=⟨q,(k:Int)+1,5,1,0,[]⟩):=by show _=_;unfold aB;rw [HQ.out]
     rw [←HE.out]at hso
     rcases hso with⟨hne, -⟩|⟨-,rfl,ya,yc,SB',PI',v',hat',hst'⟩
     · exact absurd HST.out.1 hne
     rw [HST.out.2.1,HST.out.2.2.1];have HAW':=Hd (HST.out.2.2.2 ya yc);have HSO:=Hd (sub_zero HST.out.1)
     have HOK':=Hd (sub_ok HOK.out (by decide) HSO.out (by intro t ht;exact absurd ht (by unfold aB;simp)) ya yc)
     have HLN':Hid ((subM aR m (aB k) ya yc).L.length≤k+1):=by show _≤_;rw [subM_L,addM_len];have:=HLN.out;omega
     obtain⟨hbz, -,hmz⟩:=stp_below HB1.out HB1.out.size HMU.out hst';have HBZ:=Hd hbz;have HMZ:=Hd hmz;have HAT':=Hd hat';have HX4:=Hd (box_kept hst'.kept HX.out HNM.out);clear hat' hst' hbz hmz HA1 HB1 HMU HOK HLN HSO HX x0 x1 HST HE;obtain⟨x0,x1⟩:=box_cells HX4.out;go_wp2_with fail
     refine(rID_aw w4 q ((k:Int)+1) 5 hpk (okI_of (by omega) (by omega)) (by decide)).mono ?_
     rintro e w5 ⟨rfl,hb5⟩;rw [HID.out];have HA5:=Hd (HAT'.out.keepB hb5);have HB5:=Hd (bnext HBZ.out hb5);clear hb5 HAT' HBZ x0 x1;go_wp2_with fail
     go_roundw
     case rel=>exact⟨k+1,_,SB',PI',v',by omega,by go_num,rfl,HAW',HOK',HLN',HA5,HMZ,HB5⟩
     case measure=>simp [intOf];omega
   · obtain rfl:k=3:=by omega
     have HST:=Hd (aw_last m HAW.out);have hp3:=aw_pid 3;go_wp2_with fail
     refine(tip_any c SB PI wr aR m (blksS m.L m.best) v HAT.out (by have:=HST.out.2.2.1;omega)).mono ?_
     rintro e w4 ⟨rfl,hb4⟩;rw [HST.out.2.1,HST.out.2.2.1];have HA4:=Hd (HAT.out.keepB hb4);have HB4:=Hd (bnext HBR.out hb4);clear hb4 HAT HBR;go_wp2_with fail
     refine(final_any c SB PI w4 aR m (blksS m.L m.best) v HA4.out).mono ?_
     rintro e w5 ⟨rfl,hb5⟩;rw [HST.out.2.2.2.1];have HA5:=Hd (HA4.out.keepB hb5);have HB5:=Hd (bnext HB4.out hb5);clear hb5 HA4 HB4;go_wp2_with fail
     refine(submit_aw c SB PI w5 m v HA5.out HOK.out (by have:=HLN.out;omega) 0 1 6 (by decide) (by decide) (by decide)).mono ?_
     rintro e w6 hso
     rcases hso with⟨-,rfl,PI',pv',hat',hst'⟩|⟨hz, -⟩
     rotate_left
     · have h19:=HST.out.1.symm.trans hz
       exact absurd h19 (by decide)
     rw [show subE aR m ⟨0,1,6,1,0,[]⟩=19 from HST.out.1];obtain⟨hbz, -, -⟩:=stp_below HB5.out HB5.out.size HMU.out hst';have HB6:=Hd hbz;have HA6:=Hd hat';have HPP:=Hd HST.out.2.2.2.2;clear hat' hst' hbz HA5 HB5 HMU HST;obtain⟨q,hq⟩: ∃q,pid 3=q:=⟨_,rfl⟩;rw [hq]at hp3⊢;clear hq;go_wp2_with fail
     refine(state_any c SB PI' w6 aR m (blksS m.L m.best) { v with pv:=pv' } HA6.out).mono ?_
     rintro e w7 ⟨rfl,hb7⟩;have HA7:=Hd (HA6.out.keepB hb7);have HB7:=Hd (bnext HB6.out hb7);clear hb7 HA6 HB6;go_wp2_with fail
     refine(state_any c SB PI' w7 aR m (blksS m.L m.best) { v with pv:=pv' } HA7.out).mono ?_
     rintro e w8 ⟨rfl,hb8⟩;have HA8:=Hd (HA7.out.keepB hb8);have HB8:=Hd (bnext HB7.out hb8);clear hb8 HA7 HB7;go_wp2_with fail
     refine(poHeight_any v.p PI' w8 aR (runW aR (blksS m.L m.best)) pv' HA8.out.state).mono ?_
     rintro e w9 ⟨rfl,hb9⟩;rw [HPP.out];have HB9:=Hd (bnext HB8.out hb9);clear hb9 HA8 HB8;go_wp2_with fail;go_ret
     exact⟨rfl,HB9.out⟩
end Go.Proofs.YtjknlhiimmbilaaGreatDoor
