/- The laws of chains: agree. -/
import Derived.Test.YtjknlhiimmbilaaGreatDoorMRcB
import Derived.Test.YtjknlhiimmbilaaGreatDoorMCz
import Derived.Test.YtjknlhiimmbilaaGreatDoorMSrt
import Derived.Test.YtjknlhiimmbilaaGreatDoorMSam
import Derived.Test.YtjknlhiimmbilaaGreatDoorMKit
set_option maxRecDepth 100000
set_option maxHeartbeats 8000000
namespace Go.Proofs.YtjknlhiimmbilaaGreatDoor
open Go.ChangeShapes Go.WideShapes Go.ChangeAt Go.RowKit Go.Sort
theorem smallBk_mod {b:BlkM}(h:smallBk b=true):(∀t∈b.txs,ModT t)∧b.txs.length≤1000:=by
 have h2:=smallBk_of h
 refine⟨fun t ht=> ?_,by omega⟩
 obtain⟨a1,a2,a3,a4⟩:=h2.2 t ht
 exact⟨by omega,by omega,fun o ho=>by have:=a4 o ho;omega,by omega⟩
theorem agree_any (c:Nat)(SB PI:Nat→Prop)(w:World)(r:RuM)(m:ChM)(bs:List BlkM)(v:ChV)(h:ChAt c SB PI w r m bs v)(ok:ChOK r m)(rc:RcM)(s0:SimC m rc)(S:Nat→Prop)(pi:Bool)(la:Option Addr)(lc:Nat)(hr:rssR.rel S w [.slice la rc.L.length lc] rc.L)(hl:m.L.length≤12)(hsm: ∀e∈m.L,smallBk e.b=true):
   Calls Tryz.prog 12 #[.pointer (some ⟨c,0,none⟩),.agg #[.bool pi,.int .u64 0,.int .i64 0,.slice none 0 0,.slice none 0 0,.slice none 0 0,.int .i64 r.mode,.int .i64 r.depth,.int .i64 r.bl,.int .i64 r.bu,.int .i64 r.qu,.int .u64 r.rew,.int .i64 r.win,.int .i64 r.fin,.int .u64 r.work,.slice la rc.L.length lc,.int .i64 rc.tip,.int .i64 rc.fin]] w fun e w'=>e= .returned (.bool true)∧Below w.heap.size w w':=by
 have g1:=(sliceR.lens hr).2;unfold maxLen at g1;have hbA:=bnew (Below.refl w.heap.size w) (.cells #[.bool pi,.int .u64 0,.int .i64 0,.slice none 0 0,.slice none 0 0,.slice none 0 0,.int .i64 r.mode,.int .i64 r.depth,.int .i64 r.bl,.int .i64 r.bu,.int .i64 r.qu,.int .u64 r.rew,.int .i64 r.win,.int .i64 r.fin,.int .u64 r.work,.slice la rc.L.length lc,.int .i64 rc.tip,.int .i64 rc.fin] 43);have HX:=Hd (box_new w (.cells #[.bool pi,.int .u64 0,.int .i64 0,.slice none 0 0,.slice none 0 0,.slice none 0 0,.int .i64 r.mode,.int .i64 r.depth,.int .i64 r.bl,.int .i64 r.bu,.int .i64 r.qu,.int .u64 r.rew,.int .i64 r.win,.int .i64 r.fin,.int .u64 r.work,.slice la rc.L.length lc,.int .i64 rc.tip,.int .i64 rc.fin] 43));have HC:=Hd (h.keepB hbA);have HR:=Hd (rssR.keepB hr hbA);have HB:=Hd hbA;have HOK:=Hd ok;have HSM:=Hd hsm;have HS:=Hd s0;have HTN:=Hd (s0.tipN ok);have HFN:=Hd s0.finN;have HBD:=Hd s0.bounds;have HBE:=Hd (s0.best ok);have HTI:=Hd (s0.tips ok);have HPO:=Hd s0.parOK
 have HRL:Hid (rc.L.length≤12):=by show _≤_;rw [s0.len];exact hl
 have HML:Hid (m.best.length≤100):=by have:=ok.best.len ok.high;show _≤_;omega
 have HL12:=Hd hl;clear hbA h hr ok hsm s0 hl
 go_enter Tryz.func12,Tryz.ntmps12
 go_upto_region 1 with(fail)
 generalize w.alloc (.cells #[.bool pi,.int .u64 0,.int .i64 0,.slice none 0 0,.slice none 0 0,.slice none 0 0,.int .i64 r.mode,.int .i64 r.depth,.int .i64 r.bl,.int .i64 r.bu,.int .i64 r.qu,.int .u64 r.rew,.int .i64 r.win,.int .i64 r.fin,.int .u64 r.work,.slice la rc.L.length lc,.int .i64 rc.tip,.int .i64 rc.fin] 43)=W at*;go_wp2_with fail
 refine(tip_any c SB PI W r m bs v HC.out (by have:=HML.out;omega)).mono ?_
 rintro e w1 ⟨rfl,hb1⟩;have HX1:=Hd (box_after hb1 HX.out);have x0:w1.cell? ⟨w.heap.size,16,none⟩=some (.int .i64 rc.tip):=(box_cells HX1.out).1 16
 go_wp2_with (refine wpList_load_row rfl _ _ rfl w.heap.size rfl _ _ _ _ HX1.out Tryz.underlying43 rfl (by kernel_rfl) ?_)
 refine(name48_any S w1 pi r rc la lc (rssR.keepB HR.out hb1) rc.tip HBD.out.2.1).mono ?_
 rintro e w2 ⟨rfl,hb2⟩;rw [HTN.out.1,HTN.out.2];have HB2:=Hd (bnext hb1 hb2);clear x0 hb1 hb2;go_wp2_with fail
 refine(final_any c SB PI w2 r m bs v (HC.out.keepB HB2.out)).mono ?_
 rintro e w3 ⟨rfl,hb3⟩;have HB3:=Hd (bnext HB2.out hb3);clear hb3 HB2;have HX3:=Hd (box_after HB3.out HX.out);have x0:w3.cell? ⟨w.heap.size,17,none⟩=some (.int .i64 rc.fin):=(box_cells HX3.out).1 17
 go_wp2_with (refine wpList_load_row rfl _ _ rfl w.heap.size rfl _ _ _ _ HX3.out Tryz.underlying43 rfl (by kernel_rfl) ?_)
 refine(name48_any S w3 pi r rc la lc (rssR.keepB HR.out HB3.out) rc.fin HBD.out.2.2.2).mono ?_
 rintro e w4 ⟨rfl,hb4⟩;rw [HFN.out.1,HFN.out.2];have HB4:=Hd (bnext HB3.out hb4);have HX4:=Hd (box_after HB4.out HX.out);have HC4:=Hd (HC.out.keepB HB4.out);have HR4:=Hd (rssR.keepB HR.out HB4.out);clear x0 hb4 HB3 HX HC HR;obtain⟨ti,hti⟩: ∃x,tipS m=x:=⟨_,rfl⟩;rw [hti];obtain⟨bl,hbl⟩: ∃x,m.best.length=x:=⟨_,rfl⟩;have HBL:=Hd hbl;rw [hbl];clear hti hbl
 go_upto_region 5 with(fail)
 refine wp_region_held_drew (S:=(BoxS w4 w.heap.size [.bool pi,.int .u64 0,.int .i64 0,.slice none 0 0,.slice none 0 0,.slice none 0 0,.int .i64 r.mode,.int .i64 r.depth,.int .i64 r.bl,.int .i64 r.bu,.int .i64 r.qu,.int .u64 r.rew,.int .i64 r.win,.int .i64 r.fin,.int .u64 r.work,.slice la rc.L.length lc,.int .i64 rc.tip,.int .i64 rc.fin])) (by kernel_rfl) ((BoxS.of HX4.out (Below.refl _ _)).drew) (fun hHeld=> ?_)
 refine wpAnyH_take (i:=0) (v:= ?_) rfl (by kernel_rfl) (by kernel_rfl) (by kernel_rfl) (fun _ _ _ h=>h) (Or.inl ⟨by rfl,?_⟩) (by assumption) ?_
 rotate_left
 · intro wz hSz
   go_simp
   all_goals with_reducible rfl
 go_simp
 refine wpAnyH_take (i:=1) (v:= ?_) rfl (by kernel_rfl) (by kernel_rfl) (by kernel_rfl) (fun _ _ _ h=>h) (Or.inl ⟨by rfl,?_⟩) (by assumption) ?_
 rotate_left
 · intro wz hSz
   go_simp
   all_goals with_reducible rfl
 go_simp
 refine wpAnyH_take (i:=2) (v:= ?_) rfl (by kernel_rfl) (by kernel_rfl) (by kernel_rfl) (fun _ _ _ h=>h) (Or.inl ⟨by rfl,?_⟩) (by assumption) ?_
 rotate_left
 · intro wz hSz
   go_simp
   all_goals with_reducible rfl
 go_simp
 refine wpAnyH_take (i:=3) (v:= ?_) rfl (by kernel_rfl) (by kernel_rfl) (by kernel_rfl) (fun _ _ _ h=>h) (Or.inl ⟨by rfl,?_⟩) (by assumption) ?_
 rotate_left
 · intro wz hSz
   go_simp
   all_goals with_reducible rfl
 go_simp
 refine wpAnyH_take (i:=4) (v:= ?_) rfl (by kernel_rfl) (by kernel_rfl) (by kernel_rfl) (fun _ _ _ h=>h) (Or.inl ⟨by rfl,?_⟩) (by assumption) ?_
 rotate_left
 · intro wz hSz
   go_simp
   all_goals with_reducible rfl
 go_simp
 refine wpAnyH_take (i:=5) (v:= ?_) rfl (by kernel_rfl) (by kernel_rfl) (by kernel_rfl) (fun _ _ _ h=>h) (Or.inl ⟨by rfl,?_⟩) (by assumption) ?_
 rotate_left
 · intro wz hSz
   go_simp
   all_goals with_reducible rfl
 go_simp
 refine wpAnyH_take (i:=6) (v:= ?_) rfl (by kernel_rfl) (by kernel_rfl) (by kernel_rfl) (fun _ _ _ h=>h) (Or.inl ⟨by rfl,?_⟩) (by assumption) ?_
 rotate_left
 · intro wz hSz
   go_simp
   all_goals with_reducible rfl
 go_simp
 refine wpAnyH_take (i:=7) (v:= ?_) rfl (by kernel_rfl) (by kernel_rfl) (by kernel_rfl) (fun _ _ _ h=>h) (Or.inl ⟨by rfl,?_⟩) (by assumption) ?_
 rotate_left
 · intro wz hSz
   go_simp
   all_goals with_reducible rfl
 go_simp
 refine wpAnyH_take (i:=8) (v:= ?_) rfl (by kernel_rfl) (by kernel_rfl) (by kernel_rfl) (fun _ _ _ h=>h) (Or.inl ⟨by rfl,?_⟩) (by assumption) ?_
 rotate_left
 · intro wz hSz
   go_simp
   all_goals with_reducible rfl
 go_simp
 refine wpAnyH_take (i:=9) (v:= ?_) rfl (by kernel_rfl) (by kernel_rfl) (by kernel_rfl) (fun _ _ _ h=>h) (Or.inl ⟨by rfl,?_⟩) (by assumption) ?_
 rotate_left
 · intro wz hSz
   go_simp
   all_goals with_reducible rfl
 go_simp
 refine wpAnyH_take (i:=10) (v:= ?_) rfl (by kernel_rfl) (by kernel_rfl) (by kernel_rfl) (fun _ _ _ h=>h) (Or.inl ⟨by rfl,?_⟩) (by assumption) ?_
 rotate_left
 · intro wz hSz
   go_simp
   all_goals with_reducible rfl
 go_simp
 refine wpAnyH_take (i:=11) (v:= ?_) rfl (by kernel_rfl) (by kernel_rfl) (by kernel_rfl) (fun _ _ _ h=>h) (Or.inl ⟨by rfl,?_⟩) (by assumption) ?_
 rotate_left
 · intro wz hSz
   go_simp
   all_goals with_reducible rfl
 go_simp
 refine wpAnyH_take (i:=12) (v:= ?_) rfl (by kernel_rfl) (by kernel_rfl) (by kernel_rfl) (fun _ _ _ h=>h) (Or.inl ⟨by rfl,?_⟩) (by assumption) ?_
 rotate_left
 · intro wz hSz
   go_simp
   all_goals with_reducible rfl
 go_simp
 refine wpAnyH_take (i:=13) (v:= ?_) rfl (by kernel_rfl) (by kernel_rfl) (by kernel_rfl) (fun _ _ _ h=>h) (Or.inl ⟨by rfl,?_⟩) (by assumption) ?_
 rotate_left
 · intro wz hSz
   go_simp
   all_goals with_reducible rfl
 go_simp
 refine wpAnyH_take (i:=14) (v:= ?_) rfl (by kernel_rfl) (by kernel_rfl) (by kernel_rfl) (fun _ _ _ h=>h) (Or.inl ⟨by rfl,?_⟩) (by assumption) ?_
 rotate_left
 · intro wz hSz
   go_simp
   all_goals with_reducible rfl
 go_simp
 refine wpAnyH_take (i:=15) (v:= ?_) rfl (by kernel_rfl) (by kernel_rfl) (by kernel_rfl) (fun _ _ _ h=>h) (Or.inl ⟨by rfl,?_⟩) (by assumption) ?_
 rotate_left
 · intro wz hSz
   go_simp
   all_goals with_reducible rfl
 go_simp
 refine wpAnyH_take (i:=16) (v:= ?_) rfl (by kernel_rfl) (by kernel_rfl) (by kernel_rfl) (fun _ _ _ h=>h) (Or.inl ⟨by rfl,?_⟩) (by assumption) ?_
 rotate_left
 · intro wz hSz
   go_simp
   all_goals with_reducible rfl
 go_simp
 refine wpAnyH_take (i:=17) (v:= ?_) rfl (by kernel_rfl) (by kernel_rfl) (by kernel_rfl) (fun _ _ _ h=>h) (Or.inl ⟨by rfl,?_⟩) (by assumption) ?_
 rotate_left
 · intro wz hSz
   go_simp
   all_goals with_reducible rfl
 go_simp
 refine wpAnyH_take (i:=18) (v:= ?_) rfl (by kernel_rfl) (by kernel_rfl) (by kernel_rfl) (fun _ _ _ h=>h) (Or.inl ⟨by rfl,?_⟩) (by assumption) ?_
 rotate_left
 · intro wz hSz
   go_simp
   all_goals with_reducible rfl
 go_simp
 refine wpAnyH_take (i:=19) (v:= ?_) rfl (by kernel_rfl) (by kernel_rfl) (by kernel_rfl) (fun _ _ _ h=>h) (Or.inl ⟨by rfl,?_⟩) (by assumption) ?_
 rotate_left
 · intro wz hSz
   go_simp
   all_goals with_reducible rfl
 go_simp
 refine wpAnyH_take (i:=21) (v:= .agg (List.toArray [.bool pi,.int .u64 0,.int .i64 0,.slice none 0 0,.slice none 0 0,.slice none 0 0,.int .i64 r.mode,.int .i64 r.depth,.int .i64 r.bl,.int .i64 r.bu,.int .i64 r.qu,.int .u64 r.rew,.int .i64 r.win,.int .i64 r.fin,.int .u64 r.work,.slice la rc.L.length lc,.int .i64 rc.tip,.int .i64 rc.fin])) rfl (by kernel_rfl) (by kernel_rfl) (by kernel_rfl) (fun _ _ _ h=>h) (yieldsIf_load_mid (by rfl) _ _ rfl (w.heap.size) (0) rfl [.bool pi,.int .u64 0,.int .i64 0,.slice none 0 0,.slice none 0 0,.slice none 0 0,.int .i64 r.mode,.int .i64 r.depth,.int .i64 r.bl,.int .i64 r.bu,.int .i64 r.qu,.int .u64 r.rew,.int .i64 r.win,.int .i64 r.fin,.int .u64 r.work,.slice la rc.L.length lc,.int .i64 rc.tip,.int .i64 rc.fin] _ (fun wz hSz=>hSz.range) Tryz.underlying43 rfl (by kernel_rfl)) (by assumption) ?_
 go_simp
 refine wpAnyH_ready (rs:= [20]) (by kernel_rfl) (by simp) ?_
 refine AllReadyH.cons rfl (fun K hK=> ?_) AllReadyH.nil
 go_simp
 go_at_call 19
 refine(best_any c SB PI _ r m bs v (HC4.out.keepB hHeld.bel) (by have:=HML.out;omega)).mono ?_
 rintro e wa ⟨u,rfl,hu,hba⟩;obtain⟨ua,uc,rfl, -, -⟩:=own_form hu;have HU:=Hd hu.slice;have HBN:=Hd (bnext hHeld.bel hba);clear hu hba
 (try go_wp2_with fail)
 clear hHeld
 refine hK.out _ _ (BoxS.of HX4.out HBN.out) (fun hHeld=> ?_)
 clear hK K
 go_simp
 refine wpAnyH_ready (rs:= [22]) (by kernel_rfl) (by simp) ?_
 refine AllReadyH.cons rfl (fun K hK=> ?_) AllReadyH.nil
 go_simp
 go_at_call 33
 refine(best48_any S _ pi r rc la lc (rssR.keepB HR4.out hHeld.bel) HPO.out (by have:=HRL.out;omega) HBD.out.1 HBD.out.2.1).mono ?_
 rintro e wb ⟨u2,rfl,hu2,hbb⟩;rw [HBE.out]at hu2;obtain⟨ua2,uc2,rfl, -, -⟩:=own_form hu2;have HU1:=Hd (numsR.keepB HU.out hbb);have HU2:=Hd hu2.slice;clear HBN HU;have HBN:=Hd (bnext hHeld.bel hbb);clear hu2 hbb
 (try go_wp2_with fail)
 clear hHeld
 refine hK.out _ _ (BoxS.of HX4.out HBN.out) (fun hHeld=> ?_)
 clear hK K
 go_simp
 refine wpAnyH_ready (rs:= [23]) (by kernel_rfl) (by simp) ?_
 refine AllReadyH.cons rfl (fun K hK=> ?_) AllReadyH.nil
 go_simp
 go_at_call 32
 refine(same04_any _ _ _ ua ua2 _ _ uc uc2 m.best m.best rfl rfl HU1.out HU2.out (by have:=HML.out;omega)).mono ?_
 rintro e wd ⟨rfl,hbd⟩;rw [show decide (m.best=m.best)=true from decide_eq_true rfl];clear HBN HU1 HU2;have HBN:=Hd (bnext hHeld.bel hbd);clear hbd
 (try go_wp2_with fail)
 clear hHeld
 refine hK.out _ _ (BoxS.of HX4.out HBN.out) (fun hHeld=> ?_)
 clear hK K
 go_simp
 refine wpAnyH_take (i:=24) (v:= ?_) rfl (by kernel_rfl) (by kernel_rfl) (by kernel_rfl) (fun _ _ _ h=>h) (Or.inl ⟨by rfl,?_⟩) (by assumption) ?_
 rotate_left
 · intro wz hSz
   go_simp
   all_goals with_reducible rfl
 go_simp
 refine wpAnyH_take (i:=25) (v:= ?_) rfl (by kernel_rfl) (by kernel_rfl) (by kernel_rfl) (fun _ _ _ h=>h) (Or.inl ⟨by rfl,?_⟩) (by assumption) ?_
 rotate_left
 · intro wz hSz
   go_simp
   all_goals with_reducible rfl
 go_simp
 refine wpAnyH_take (i:=26) (v:= ?_) rfl (by kernel_rfl) (by kernel_rfl) (by kernel_rfl) (fun _ _ _ h=>h) (Or.inl ⟨by rfl,?_⟩) (by assumption) ?_
 rotate_left
 · intro wz hSz
   go_simp
   all_goals with_reducible rfl
 go_simp
 refine wpAnyH_take (i:=27) (v:= ?_) rfl (by kernel_rfl) (by kernel_rfl) (by kernel_rfl) (fun _ _ _ h=>h) (Or.inl ⟨by rfl,?_⟩) (by assumption) ?_
 rotate_left
 · intro wz hSz
   go_simp
   all_goals with_reducible rfl
 go_simp
 refine wpAnyH_take (i:=29) (v:= .agg (List.toArray [.bool pi,.int .u64 0,.int .i64 0,.slice none 0 0,.slice none 0 0,.slice none 0 0,.int .i64 r.mode,.int .i64 r.depth,.int .i64 r.bl,.int .i64 r.bu,.int .i64 r.qu,.int .u64 r.rew,.int .i64 r.win,.int .i64 r.fin,.int .u64 r.work,.slice la rc.L.length lc,.int .i64 rc.tip,.int .i64 rc.fin])) rfl (by kernel_rfl) (by kernel_rfl) (by kernel_rfl) (fun _ _ _ h=>h) (yieldsIf_load_mid (by rfl) _ _ rfl (w.heap.size) (0) rfl [.bool pi,.int .u64 0,.int .i64 0,.slice none 0 0,.slice none 0 0,.slice none 0 0,.int .i64 r.mode,.int .i64 r.depth,.int .i64 r.bl,.int .i64 r.bu,.int .i64 r.qu,.int .u64 r.rew,.int .i64 r.win,.int .i64 r.fin,.int .u64 r.work,.slice la rc.L.length lc,.int .i64 rc.tip,.int .i64 rc.fin] _ (fun wz hSz=>hSz.range) Tryz.underlying43 rfl (by kernel_rfl)) (by assumption) ?_
 go_simp
 refine wpAnyH_ready (rs:= [28]) (by kernel_rfl) (by simp) ?_
 refine AllReadyH.cons rfl (fun K hK=> ?_) AllReadyH.nil
 go_simp
 go_at_call 34
 refine(tips_any c SB PI _ r m bs v (HC4.out.keepB hHeld.bel) HL12.out).mono ?_
 rintro e wa2 ⟨ta,tc,T,rfl,hto,htp,htm,hba⟩;have HT:=Hd hto.slice;have HTP:=Hd htp;have HTM:=Hd htm;clear HBN;have HBN:=Hd (bnext hHeld.bel hba);clear hto htp htm hba
 (try go_wp2_with fail)
 clear hHeld
 refine hK.out _ _ (BoxS.of HX4.out HBN.out) (fun hHeld=> ?_)
 clear hK K
 go_simp
 refine wpAnyH_ready (rs:= [30]) (by kernel_rfl) (by simp) ?_
 refine AllReadyH.cons rfl (fun K hK=> ?_) AllReadyH.nil
 go_simp
 go_at_call 35
 refine(tips48_any S _ pi r rc la lc (rssR.keepB HR4.out hHeld.bel) (by have:=HRL.out;omega) HS.out.ids).mono ?_
 rintro e wb2 ⟨u3,T2,rfl,hto2,htp2,htm2,hT2l,hbb⟩
 obtain rfl:T2=T:=rising_eq htp2 HTP.out fun x=>by rw [htm2 x,HTM.out x];exact HTI.out x
 obtain⟨ta2,tc2,rfl, -, -⟩:=own_form hto2;have HT1:=Hd (numsR.keepB HT.out hbb);have HT2:=Hd hto2.slice
 have HTL:Hid (T2.length≤1000):=by have:=HRL.out;show _≤_;omega
 clear HBN HT HTP HTM;have HBN:=Hd (bnext hHeld.bel hbb);clear hto2 htp2 htm2 hT2l hbb
 (try go_wp2_with fail)
 clear hHeld
 refine hK.out _ _ (BoxS.of HX4.out HBN.out) (fun hHeld=> ?_)
 clear hK K
 go_simp
 refine wpAnyH_ready (rs:= [31]) (by kernel_rfl) (by simp) ?_
 refine AllReadyH.cons rfl (fun K hK=> ?_) AllReadyH.nil
 go_simp
 go_at_call 32
 refine(same04_any _ _ _ ta ta2 _ _ tc tc2 T2 T2 rfl rfl HT1.out HT2.out (by have:=HTL.out;omega)).mono ?_
 rintro e w5 ⟨rfl,hbd⟩;rw [show decide (T2=T2)=true from decide_eq_true rfl];clear HBN HT1 HT2;have HBN:=Hd (bnext hHeld.bel hbd);clear hbd
 (try go_wp2_with fail)
 clear hHeld
 refine hK.out _ _ (BoxS.of HX4.out HBN.out) (fun hHeld=> ?_)
 clear hK K
 go_simp
 refine wpAnyH_take (i:=32) (v:= ?_) rfl (by kernel_rfl) (by kernel_rfl) (by kernel_rfl) (fun _ _ _ h=>h) (Or.inl ⟨by rfl,?_⟩) (by assumption) ?_
 rotate_left
 · intro wz hSz
   go_simp
   all_goals with_reducible rfl
 go_simp
 refine wpAnyH_take (i:=33) (v:= ?_) rfl (by kernel_rfl) (by kernel_rfl) (by kernel_rfl) (fun _ _ _ h=>h) (Or.inl ⟨by rfl,?_⟩) (by assumption) ?_
 rotate_left
 · intro wz hSz
   go_simp
   all_goals with_reducible rfl
 go_simp
 refine wpAnyH_done (by kernel_rfl) ?_ _
 have HX5:=Hd (box_after HBN.out HX4.out);have HC5:=Hd (HC4.out.keepB HBN.out);have HR5:=Hd (rssR.keepB HR4.out HBN.out);have HB5:=Hd (bnext HB4.out HBN.out);clear HBN HTL HC4 HR4 HB4 HX4;have x0:w5.cell? ⟨w.heap.size,15,none⟩=some (.slice la rc.L.length lc):=(box_cells HX5.out).1 15;go_wp2_with fail
 go_loopw [80] (fun vi wr=> ∃k:Nat,k≤rc.L.length∧vi= .int .i64 k∧Hid (Below w5.heap.size w5 wr)) (fun vi _=>rc.L.length-(intOf vi).toNat)
 case atStart=>exact⟨0,Nat.zero_le _,rfl,Below.refl _ _⟩
 case round=>
   obtain⟨k,hk,rfl,HBR⟩:=hrel
   by_cases hlt:k<rc.L.length
   · obtain⟨bb,off,es,rfl, -,hbl,hrel2,hca⟩:=sliceR.at (rssR.keepB HR5.out HBR.out) k hlt
     obtain⟨xa,xc,rfl,hin⟩:=rsR.inv hrel2;rw [rsR.n]at hca;obtain⟨e0,hf0,hb0,hi0,ht0⟩:=HS.out.at HOK.out k hlt;obtain⟨s,hsq⟩: ∃x,rc.L[k]=x:=⟨_,rfl⟩;rw [hsq]at hin hca hf0 hb0 hi0 ht0;have HIN:=Hd hin;have HCA:=Hd hca;have HF0:=Hd hf0;have HB0:=Hd hb0;have HT0:=Hd ht0
     have HSMB:Hid (smallBk s.b=true):=by show _=_;rw [←hb0];exact HSM.out _ (findS_some hf0).1
     clear hin hca hf0 hb0 hi0 ht0 hrel2 hbl hsq
     have i0:(0:Int)≤(k:Int):=by omega
     have i1:(k:Int)<(rc.L.length:Int):=by omega
     go_upto_region 10 with(first
       |(refine wpList_load_mid rfl _ _ rfl bb (off+k*9) rfl [.int .u64 s.b.parent,.int .i64 s.b.height,.int .u64 s.b.miner,.int .u64 s.b.work,.int .u64 s.b.nonce,.slice xa s.b.txs.length xc,.int .u64 s.id,.int .i64 s.par,.int .u64 s.tot] _ HCA.out Tryz.underlying93 rfl (by kernel_rfl) ?_)
       |(refine wpList_store_row rfl _ _ _ rfl wr.heap.size _ rfl rfl _ _ (box_new wr (.cells #[.int .u64 0,.int .i64 0,.int .u64 0,.int .u64 0,.int .u64 0,.slice none 0 0,.int .u64 0,.int .i64 0,.int .u64 0] 93)) (by kernel_rfl) rfl (by kernel_rfl) ?_))
     obtain⟨w6,hw6,HB6,HX6⟩: ∃y,_=y∧Hid (Below wr.heap.size wr y)∧Hid (y.heap[wr.heap.size]? =some (.cells #[.int .u64 s.b.parent,.int .i64 s.b.height,.int .u64 s.b.miner,.int .u64 s.b.work,.int .u64 s.b.nonce,.slice xa s.b.txs.length xc,.int .u64 s.id,.int .i64 s.par,.int .u64 s.tot] 93 (0,0))):=
       ⟨_,rfl,below_setRow (g:=wr.heap.size) (bnew (Below.refl _ _) (.cells #[.int .u64 0,.int .i64 0,.int .u64 0,.int .u64 0,.int .u64 0,.slice none 0 0,.int .u64 0,.int .i64 0,.int .u64 0] 93)) (Nat.le_refl _) #[.int .u64 s.b.parent,.int .i64 s.b.height,.int .u64 s.b.miner,.int .u64 s.b.work,.int .u64 s.b.nonce,.slice xa s.b.txs.length xc,.int .u64 s.id,.int .i64 s.par,.int .u64 s.tot],setRow_heap _ _ _ _ _ _ (box_new wr (.cells #[.int .u64 0,.int .i64 0,.int .u64 0,.int .u64 0,.int .u64 0,.slice none 0 0,.int .u64 0,.int .i64 0,.int .u64 0] 93))⟩
     rw [hw6];clear hw6 HCA;have HBC:=Hd (bnext HBR.out HB6.out);have HIN6:=Hd ((HIN.out.keepB HB6.out).blk);have hido:=HIN.out.id;clear HIN HBR;have x6:w6.cell? ⟨wr.heap.size,6,none⟩=some (.int .u64 s.id):=(box_cells HX6.out).1 6;go_wp2_with fail
     refine(block_any c SB PI w6 r m bs v (HC5.out.keepB HBC.out) (fun e he=>(HOK.out.blk e he).1.valid) s.id hido).mono ?_
     rintro e w7 (⟨hn, -, -⟩|⟨s2,ya,yc,hf2,rfl,hbi,hb7⟩)
     · rw [HF0.out]at hn;simp at hn
     rw [HF0.out]at hf2;obtain rfl:=Option.some.inj hf2;rw [HB0.out]at hbi⊢;have HBI:=Hd hbi;have HB7:=Hd hb7;have HX7:=Hd (box_after hb7 HX6.out);have HI7:=Hd (HIN6.out.keepB hb7);clear hbi hb7 hf2 x6 HX6 HIN6
     go_upto_region 11 with(refine wpList_store_row rfl _ _ _ rfl w7.heap.size _ rfl rfl _ _ (box_new w7 (.cells #[.int .u64 0,.int .i64 0,.int .u64 0,.int .u64 0,.int .u64 0,.slice none 0 0] 48)) (by kernel_rfl) rfl (by kernel_rfl) ?_)
     obtain⟨w8,hw8,HB8,HY8⟩: ∃y,_=y∧Hid (Below w7.heap.size w7 y)∧Hid (y.heap[w7.heap.size]? =some (.cells #[.int .u64 s.b.parent,.int .i64 s.b.height,.int .u64 s.b.miner,.int .u64 s.b.work,.int .u64 s.b.nonce,.slice ya s.b.txs.length yc] 48 (0,0))):=
       ⟨_,rfl,below_setRow (g:=w7.heap.size) (bnew (Below.refl _ _) (.cells #[.int .u64 0,.int .i64 0,.int .u64 0,.int .u64 0,.int .u64 0,.slice none 0 0] 48)) (Nat.le_refl _) #[.int .u64 s.b.parent,.int .i64 s.b.height,.int .u64 s.b.miner,.int .u64 s.b.work,.int .u64 s.b.nonce,.slice ya s.b.txs.length yc],setRow_heap _ _ _ _ _ _ (box_new w7 (.cells #[.int .u64 0,.int .i64 0,.int .u64 0,.int .u64 0,.int .u64 0,.slice none 0 0] 48))⟩
     rw [hw8];clear hw8;have HX8:=Hd (box_after HB8.out HX7.out);have HI8:=Hd (HI7.out.keepB HB8.out);have HJ8:=Hd (HBI.out.keepB HB8.out);have HBD8:=Hd (bnext HBC.out (bnext HB7.out HB8.out));clear HX7 HI7 HBI HB7 HB8 HBC;have x6:w8.cell? ⟨wr.heap.size,6,none⟩=some (.int .u64 s.id):=(box_cells HX8.out).1 6;go_wp2_with fail
     refine(work_any c SB PI w8 r m bs v (HC5.out.keepB HBD8.out) s.id hido).mono ?_
     rintro e w9 ⟨rfl,hb9⟩
     have hwk:workI m s.id=s.tot:=by unfold workI;rw [HF0.out];exact HT0.out
     have hfs:(findS m.L s.id).isSome=true:=by rw [HF0.out];rfl
     rw [hwk,hfs];have HX9:=Hd (box_after hb9 HX8.out);have HY9:=Hd (box_after hb9 HY8.out);have HI9:=Hd (HI8.out.keepB hb9);have HJ9:=Hd (HJ8.out.keepB hb9);have HBD9:=Hd (bnext HBD8.out hb9);clear hwk hfs x6 hb9 HX8 HY8 HI8 HJ8 HBD8;obtain⟨y0, -⟩:=box_cells HY9.out;obtain⟨z0, -⟩:=box_cells HX9.out
     have z8:(s.tot != s.tot)=false:=by simp
     go_wp2_with fail
     refine(sameBlk_any _ _ w9 s.b s.b ya xa yc xc HJ9.out HI9.out (smallBk_mod HSMB.out).1 (smallBk_mod HSMB.out).1 (smallBk_mod HSMB.out).2).mono ?_
     rintro e w10 ⟨rfl,hb10⟩;rw [show eqB s.b s.b=true from(eqB_iff _ _).2 rfl];have HBDX:=Hd (bnext HBD9.out hb10);clear y0 z0 hb10;go_wp2_with fail
     go_roundw
     case rel=>exact⟨k+1,by omega,by go_num,HBDX⟩
     case measure=>first|(simp [intOf];done)|(simp [intOf];omega)
   · obtain rfl:k=rc.L.length:=by omega
     go_wp2_with fail;go_ret
     exact⟨rfl,bnext HB.out (bnext HB5.out HBR.out)⟩
end Go.Proofs.YtjknlhiimmbilaaGreatDoor
