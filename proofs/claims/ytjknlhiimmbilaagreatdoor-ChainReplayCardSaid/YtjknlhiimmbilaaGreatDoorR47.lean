/- The reference of blocks: validity, bytes that are named, identifier. -/
import Derived.Test.YtjknlhiimmbilaaGreatDoorMBlk
import Derived.Test.YtjknlhiimmbilaaGreatDoorMTxR
set_option maxRecDepth 100000
set_option maxHeartbeats 4000000
namespace Go.Proofs.YtjknlhiimmbilaaGreatDoor
open Go.ChangeShapes Go.WideShapes Go.ChangeAt Go.RowKit Go.Sort
theorem encP_len {t:TxM}(hv:validE t=0):(encS t t.proof).length≤1200000:=by
 obtain⟨f1,f2,f3,f4,f5,f6⟩:=validE_sizes hv
 have h1:=outsS_len t.outs (fun o ho=>by rw [f3 o ho];omega)
 unfold encS
 simp only [List.length_append,digs_len,listS_len,digsAll_len]
 simp;omega
theorem Own.lower {α:Type}{r:Rep α}{base base':Nat}{e:TypeId}{F:Nat→Prop}{w:World}{v:Value}{xs:List α}(h:Own r base e F w v xs)(hb:base'≤base):Own r base' e F w v xs:=by
 obtain⟨S,css,hS,hv,hl,hr,ho⟩:=h
 refine⟨S,css,hS,hv,hl,hr,ho.1,?_⟩
 rcases ho.2 with h0|⟨g,cap,cur,h1,h2,h3⟩
 · exact .inl h0
 · exact .inr ⟨g,cap,cur,h1,Nat.le_trans hb h2,h3⟩
theorem rtxID_any (S:Nat→Prop)(w:World)(t:TxM)(ma oa pa:Option Addr)(mc oc pc:Nat)(h:TxIn S w t ma oa pa mc oc pc):
   Calls Tryz.prog 93 #[.agg #[.int .u64 t.anchor,.slice ma t.marks.length mc,.slice oa t.outs.length oc,.int .u64 t.dep,.int .u64 t.wd,.int .u64 t.fee,.int .u64 t.acc,.int .u64 t.nonce,.int .i64 t.exp,.slice pa t.proof.length pc]] w fun e w'=>e= .returned (.int .u64 (idT t))∧Below w.heap.size w w':=by
 have hbB:=bnew (Below.refl w.heap.size w) (.cells #[.int .u64 t.anchor,.slice ma t.marks.length mc,.slice oa t.outs.length oc,.int .u64 t.dep,.int .u64 t.wd,.int .u64 t.fee,.int .u64 t.acc,.int .u64 t.nonce,.int .i64 t.exp,.slice pa t.proof.length pc] 111);have HA0:=Hd (box_new w (.cells #[.int .u64 t.anchor,.slice ma t.marks.length mc,.slice oa t.outs.length oc,.int .u64 t.dep,.int .u64 t.wd,.int .u64 t.fee,.int .u64 t.acc,.int .u64 t.nonce,.int .i64 t.exp,.slice pa t.proof.length pc] 111));have HBel:=Hd hbB;have H:=Hd (h.keepB hbB);clear h hbB
 go_enter Tryz.func93,Tryz.ntmps93
 go_upto_region 1 with(fail)
 generalize w.alloc (.cells #[.int .u64 t.anchor,.slice ma t.marks.length mc,.slice oa t.outs.length oc,.int .u64 t.dep,.int .u64 t.wd,.int .u64 t.fee,.int .u64 t.acc,.int .u64 t.nonce,.int .i64 t.exp,.slice pa t.proof.length pc] 111)=W at*;obtain⟨x0,x1⟩:=box_cells HA0.out;go_wp2_with fail
 refine(rtxValid_any S W t ma oa pa mc oc pc H.out).mono ?_
 rintro e w1 ⟨rfl,hb1⟩;clear x0 x1
 by_cases hv:validE t=0
 · have HF:Hid (idT t=hashS 14 (packS (encS t t.proof))):=by show _=_;unfold idT;rw [if_pos hv]
   have HLE:Hid ((encS t t.proof).length≤1200000):=encP_len hv;obtain⟨f1,f2,f3,f4,f5,f6⟩:=validE_sizes hv;rw [hv];clear hv;obtain⟨x0,x1⟩:=box_cells (box_after hb1 HA0.out);go_wp2_with fail
   refine(rTxBytes_any S w1 t ma oa pa mc oc pc (H.out.keepB hb1) (by omega) (by omega) (fun o ho=>by rw [f3 o ho];omega) (by omega) f4 (by omega)).mono ?_
   rintro e w3 ⟨a3,c3,rfl,hr3,hb3⟩;have HR3:=Hd hr3;clear hr3 x0 x1;generalize encS t t.proof=l at*;go_wp2_with fail
   refine(rHashBytes_any (fun _=>True) w3 14 (by omega) a3 _ c3 l rfl HR3.out (by have:=HLE.out;omega)).mono ?_
   rintro e w4 ⟨rfl,hb4⟩;go_wp2_with fail;go_ret
   exact⟨ret_int HF.out.symm,bnext HBel.out (bnext hb1 (bnext hb3 hb4))⟩
 · have HF:Hid (idT t=0):=by show _=_;unfold idT;rw [if_neg hv]
   have z1:(validE t==0)=false:=by rw [beq_eq_false_iff_ne];exact hv
   have z2:(validE t != 0)=true:=by rw [bne_iff_ne];exact hv
   obtain⟨r,hr⟩: ∃r,validE t=r:=⟨_,rfl⟩;rw [hr]at z1 z2⊢;clear hr hv;go_wp2_with fail;go_ret
   exact⟨ret_int HF.out.symm,bnext HBel.out hb1⟩
theorem rblkValid_any (S:Nat→Prop)(w:World)(b:BlkM)(xa:Option Addr)(xc:Nat)(h:BlkIn S w b xa xc):
   Calls Tryz.prog 57 #[.agg #[.int .u64 b.parent,.int .i64 b.height,.int .u64 b.miner,.int .u64 b.work,.int .u64 b.nonce,.slice xa b.txs.length xc]] w fun e w'=>e= .returned (.int .i64 (blkE b))∧Below w.heap.size w w':=by
 have hbA:=bnew (Below.refl w.heap.size w) (.cells #[.int .u64 b.parent,.int .i64 b.height,.int .u64 b.miner,.int .u64 b.work,.int .u64 b.nonce,.slice xa b.txs.length xc] 48);have HX:=Hd (box_new w (.cells #[.int .u64 b.parent,.int .i64 b.height,.int .u64 b.miner,.int .u64 b.work,.int .u64 b.nonce,.slice xa b.txs.length xc] 48));have H:=Hd (h.keepB hbA);have HB:=Hd hbA;clear hbA h
 go_enter Tryz.func57,Tryz.ntmps57
 go_upto_region 1 with(fail)
 generalize w.alloc (.cells #[.int .u64 b.parent,.int .i64 b.height,.int .u64 b.miner,.int .u64 b.work,.int .u64 b.nonce,.slice xa b.txs.length xc] 48)=W at*;obtain⟨x0,x1⟩:=box_cells HX.out
 by_cases hc0:b.height<1
 · have HF:Hid (blkE b=1):=by show _=_;unfold blkE;rw [if_neg (by unfold blkHead;rw [decide_eq_true_eq];omega)]
   go_wp2_with fail;go_ret
   exact⟨ret_int HF.out.symm,HB.out⟩
 · skip
   by_cases hc1:1048576<b.height
   · have HF:Hid (blkE b=1):=by show _=_;unfold blkE;rw [if_neg (by unfold blkHead;rw [decide_eq_true_eq];omega)]
     go_wp2_with fail;go_ret
     exact⟨ret_int HF.out.symm,HB.out⟩
   · skip
     by_cases hc2:b.work<1
     · have HF:Hid (blkE b=1):=by show _=_;unfold blkE;rw [if_neg (by unfold blkHead;rw [decide_eq_true_eq];omega)]
       go_wp2_with fail;go_ret
       exact⟨ret_int HF.out.symm,HB.out⟩
     · skip
       by_cases hc3:65536<b.work
       · have HF:Hid (blkE b=1):=by show _=_;unfold blkE;rw [if_neg (by unfold blkHead;rw [decide_eq_true_eq];omega)]
         go_wp2_with fail;go_ret
         exact⟨ret_int HF.out.symm,HB.out⟩
       · skip
         by_cases hc4:18446744069414584321≤b.parent
         · have HF:Hid (blkE b=1):=by show _=_;unfold blkE;rw [if_neg (by unfold blkHead;rw [decide_eq_true_eq];omega)]
           go_wp2_with fail;go_ret
           exact⟨ret_int HF.out.symm,HB.out⟩
         · skip
           by_cases hc5:18446744069414584321≤b.miner
           · have HF:Hid (blkE b=1):=by show _=_;unfold blkE;rw [if_neg (by unfold blkHead;rw [decide_eq_true_eq];omega)]
             go_wp2_with fail;go_ret
             exact⟨ret_int HF.out.symm,HB.out⟩
           · skip
             by_cases hc6:64<(b.txs.length:Int)
             · have HF:Hid (blkE b=1):=by show _=_;unfold blkE;rw [if_neg (by unfold blkHead;rw [decide_eq_true_eq];omega)]
               go_wp2_with fail;go_ret
               exact⟨ret_int HF.out.symm,HB.out⟩
             · skip
               have HH:Hid (blkHead b=true):=by show _=_;unfold blkHead;rw [decide_eq_true_eq];omega
               have hx64:b.txs.length≤64:=by omega
               go_wp2_with fail;clear x0 x1
               go_loopw [3,4] (fun vn vi wr=> ∃k:Nat,k≤b.txs.length∧vi= .int .i64 k∧vn= .int .i64 (weightS (b.txs.take k))∧Hid (weightS (b.txs.take k)≤1200000*k)∧Hid ((b.txs.take k).all (fun t=>validE t==0)=true)∧Below W.heap.size W wr) (fun _ vi _=>b.txs.length-(intOf vi).toNat)
               case atStart=>exact⟨0,Nat.zero_le _,rfl,rfl,by show _≤_;simp [weightS],by show _=_;simp,Below.refl _ _⟩
               case round=>
                 obtain⟨k,hk,rfl,rfl,hwl,hall,hbr⟩:=hrel;obtain⟨x0,x1⟩:=box_cells (box_after hbr HX.out)
                 by_cases hlt:k<b.txs.length
                 · obtain⟨bb,off,ma,oa,pa,mc,oc,pc,rfl,hbl,ht,c0,c1,c2,c3,c4,c5,c6,c7,c8,c9⟩:=txs_at (txsR.keepB H.out.txs hbr) k hlt
                   have HT:=Hd (weightS_snoc b.txs k hlt)
                   have HAL:=Hd (all_take_succ (fun t=>validE t==0) b.txs k hlt)
                   have HBD:Hid (validE b.txs[k]≠0→b.txs.all (fun t=>validE t==0)=false):=fun hv=>all_false _ b.txs k hlt (by simpa using hv)
                   have HCL:=Hd (And.intro c0 (And.intro c1 (And.intro c2 (And.intro c3 (And.intro c4 (And.intro c5 (And.intro c6 (And.intro c7 (And.intro c8 c9)))))))));generalize b.txs[k]=t at*;have HT2:=Hd ht;have hwl2:=hwl.out;generalize hWS:weightS (b.txs.take k)=ws at*;clear hWS ht;go_wp2_with fail
                   refine(rtxValid_any _ wr t ma oa pa mc oc pc HT2.out).mono ?_
                   rintro e w3 ⟨rfl,hb3⟩;clear x0 x1 c0 c1 c2 c3 c4 c5 c6 c7 c8 c9
                   by_cases hv:validE t=0
                   · have HV:=Hd hv
                     have HE:Hid ((encT t).length=(encS t t.proof).length):=by show _=_;unfold encT;rw [if_pos hv]
                     have HLE:Hid ((encS t t.proof).length≤1200000):=encP_len hv;obtain⟨f1,f2,f3,f4,f5,f6⟩:=validE_sizes hv;rw [hv];clear hv;obtain⟨x0,x1⟩:=box_cells (box_after (bnext hbr hb3) HX.out);obtain⟨c0,c1,c2,c3,c4,c5,c6,c7,c8,c9⟩:=HCL.out;have d0:=hb3.cell (cell_lt c0) |>.trans c0;have d1:=hb3.cell (cell_lt c1) |>.trans c1;have d2:=hb3.cell (cell_lt c2) |>.trans c2;have d3:=hb3.cell (cell_lt c3) |>.trans c3;have d4:=hb3.cell (cell_lt c4) |>.trans c4;have d5:=hb3.cell (cell_lt c5) |>.trans c5;have d6:=hb3.cell (cell_lt c6) |>.trans c6;have d7:=hb3.cell (cell_lt c7) |>.trans c7;have d8:=hb3.cell (cell_lt c8) |>.trans c8;have d9:=hb3.cell (cell_lt c9) |>.trans c9;clear c0 c1 c2 c3 c4 c5 c6 c7 c8 c9;go_wp2_with fail
                     refine(rTxBytes_any _ w3 t ma oa pa mc oc pc (HT2.out.keepB hb3) (by omega) (by omega) (fun o ho=>by rw [f3 o ho];omega) (by omega) f4 (by omega)).mono ?_
                     rintro e w4 ⟨a4,c4,rfl, -,hb4⟩;clear x0 x1 d0 d1 d2 d3 d4 d5 d6 d7 d8 d9;rw [←HE.out]at HLE⊢;have hle:=HLE.out
                     have hnn:(ws:Int)+(encT t).length=((ws+(encT t).length:Nat):Int):=by omega
                     have HNN:=Hd hnn;clear hnn;obtain⟨m,hm⟩: ∃m,(encT t).length=m:=⟨_,rfl⟩;have HM:=Hd hm;rw [hm]at hle⊢;clear hm;go_wp2_with fail
                     go_roundw
                     case rel=>exact⟨k+1,by omega,by go_num,by rw [HT.out,HM.out];go_num,by show _≤_;rw [HT.out,HM.out];omega,by show _=_;rw [HAL.out,hall.out,HV.out];rfl,bnext hbr (bnext hb3 hb4)⟩
                     case measure=>simp [intOf];omega
                   · have HF:Hid (blkE b=1):=by show _=_;unfold blkE;rw [if_pos HH.out,if_neg (by rw [HBD.out hv];simp)]
                     have z1:(validE t==0)=false:=by rw [beq_eq_false_iff_ne];exact hv
                     have z2:(validE t != 0)=true:=by rw [bne_iff_ne];exact hv
                     clear hv;generalize validE t=r at*;go_wp2_with fail;go_ret
                     exact⟨ret_int HF.out.symm,bnext HB.out (bnext hbr hb3)⟩
                 · obtain rfl:k=b.txs.length:=by omega
                   rw [List.take_length]at hwl hall⊢
                   by_cases hws:2097152<(weightS b.txs:Int)
                   · have HF:Hid (blkE b=3):=by show _=_;unfold blkE;rw [if_pos HH.out,if_pos hall.out,if_neg (by omega)]
                     go_wp2_with fail;go_ret
                     exact⟨ret_int HF.out.symm,bnext HB.out hbr⟩
                   · have HF:Hid (blkE b=0):=by show _=_;unfold blkE;rw [if_pos HH.out,if_pos hall.out,if_pos (by omega)]
                     go_wp2_with fail;go_ret
                     exact⟨ret_int HF.out.symm,bnext HB.out hbr⟩
theorem rheader_any (S:Nat→Prop)(w:World)(b:BlkM)(xa:Option Addr)(xc:Nat)(h:BlkIn S w b xa xc)(hh:1≤b.height)(hh2:b.height≤1048576)(hl:b.txs.length≤64):
   Calls Tryz.prog 91 #[.agg #[.int .u64 b.parent,.int .i64 b.height,.int .u64 b.miner,.int .u64 b.work,.int .u64 b.nonce,.slice xa b.txs.length xc]] w (GrewTo w.heap.size w (headS b)):=by
 have d0:=okU_in h.parent;have d2:=okU_in h.miner;have d3:=okU_in h.work;have d4:=okU_in h.nonce;have hbA:=bnew (Below.refl w.heap.size w) (.cells #[.int .u64 b.parent,.int .i64 b.height,.int .u64 b.miner,.int .u64 b.work,.int .u64 b.nonce,.slice xa b.txs.length xc] 48);have HX:=Hd (box_new w (.cells #[.int .u64 b.parent,.int .i64 b.height,.int .u64 b.miner,.int .u64 b.work,.int .u64 b.nonce,.slice xa b.txs.length xc] 48));have H:=Hd (h.keepB hbA);have HB:=Hd hbA;clear hbA h
 go_enter Tryz.func91,Tryz.ntmps91
 go_upto_region 1 with(fail)
 generalize w.alloc (.cells #[.int .u64 b.parent,.int .i64 b.height,.int .u64 b.miner,.int .u64 b.work,.int .u64 b.nonce,.slice xa b.txs.length xc] 48)=W at*;obtain⟨x0,x1⟩:=box_cells HX.out;go_wp2_with fail
 refine(rDigits_any W b.parent d0.1 d0.2 8 (by omega)).mono ?_
 intro e w0 h
 obtain⟨a0,c0,rfl,ho0, -,hb0⟩:=h.read;have HO0:=Hd ho0;clear h ho0;have hn0:(digs 8 b.parent).length=8:=digs_len _ _;clear x0 x1;obtain⟨x0,x1⟩:=box_cells (box_after hb0 HX.out);go_wp2_with fail
 refine(rInt_int w0 b.height (by omega) (by omega)).mono ?_
 intro e wc1 h
 obtain⟨ac1,cc1,rfl, -,hr1,hbc1⟩:=h.read;have HR1:=Hd hr1;have hbk1:=bnext hb0 hbc1;have hBk1:=hbk1.size;have HOc1:=Hd (HO0.out.keepB hbc1);clear h hr1
 have HLEN1:Hid ((digs 8 b.parent).length+(digs 4 b.height).length≤maxLen∧((digs 8 b.parent).length+(digs 4 b.height).length)*1≤140737488355328):=by simp only [digs_len];unfold maxLen;constructor<;>omega
 go_wp2_with (at_builtin;refine wpList_cat (k:= .u8) (v:=(.slice a0 (digs 8 b.parent).length c0)) (u:= .slice ac1 (digs 4 b.height).length cc1) (w0:=W) (B:=W.heap.size) (wr:=wc1) (xs:=(digs 8 b.parent)) (ys:=digs 4 b.height) rfl _ _ rfl Tryz.etyBytes rfl rfl hbk1 hBk1 HOc1.out HR1.out HLEN1.out.1 HLEN1.out.2 ?_)
 intro v1 w1 ho1 hb1
 have hp1:=Own.mono ho1 (F':=fun x=>False∨W.heap.size≤x) fun x _ h=>by first|exact h|exact .inr h
 obtain⟨L1,hL1⟩: ∃l,(digs 8 b.parent)++digs 4 b.height=l:=⟨_,rfl⟩;have HL1:=Hd hL1
 have hn1:L1.length=(digs 8 b.parent).length+(digs 4 b.height).length:=by rw [←hL1,List.length_append]
 rw [hL1]at hp1;have HO1:=Hd hp1;clear hp1 ho1 hL1
 simp only [digs_len]at hn1
 clear x0 x1;obtain⟨x0,x1⟩:=box_cells (box_after hb1 HX.out);go_wp2_with fail
 refine(rDigits_any w1 b.miner d2.1 d2.2 8 (by omega)).mono ?_
 intro e wc2 h
 obtain⟨ac2,cc2,rfl, -,hr2,hbc2⟩:=h.read;have HR2:=Hd hr2;have hbk2:=bnext hb1 hbc2;have hBk2:=hbk2.size;have HOc2:=Hd (HO1.out.keepB hbc2);clear h hr2
 have HLEN2:Hid (L1.length+(digs 8 b.miner).length≤maxLen∧(L1.length+(digs 8 b.miner).length)*1≤140737488355328):=by simp only [digs_len];unfold maxLen;constructor<;>omega
 go_wp2_with (at_builtin;refine wpList_cat (k:= .u8) (v:=v1) (u:= .slice ac2 (digs 8 b.miner).length cc2) (w0:=W) (B:=W.heap.size) (wr:=wc2) (xs:=L1) (ys:=digs 8 b.miner) rfl _ _ rfl Tryz.etyBytes rfl rfl hbk2 hBk2 HOc2.out HR2.out HLEN2.out.1 HLEN2.out.2 ?_)
 intro v2 w2 ho2 hb2
 have hp2:=Own.mono ho2 (F':=fun x=>False∨W.heap.size≤x) fun x _ h=>by first|exact h|exact .inr h
 obtain⟨L2,hL2⟩: ∃l,L1++digs 8 b.miner=l:=⟨_,rfl⟩;have HL2:=Hd hL2
 have hn2:L2.length=L1.length+(digs 8 b.miner).length:=by rw [←hL2,List.length_append]
 rw [hL2]at hp2;have HO2:=Hd hp2;clear hp2 ho2 hL2
 simp only [digs_len]at hn2
 clear x0 x1;obtain⟨x0,x1⟩:=box_cells (box_after hb2 HX.out);go_wp2_with fail
 refine(rDigits_any w2 b.work d3.1 d3.2 8 (by omega)).mono ?_
 intro e wc3 h
 obtain⟨ac3,cc3,rfl, -,hr3,hbc3⟩:=h.read;have HR3:=Hd hr3;have hbk3:=bnext hb2 hbc3;have hBk3:=hbk3.size;have HOc3:=Hd (HO2.out.keepB hbc3);clear h hr3
 have HLEN3:Hid (L2.length+(digs 8 b.work).length≤maxLen∧(L2.length+(digs 8 b.work).length)*1≤140737488355328):=by simp only [digs_len];unfold maxLen;constructor<;>omega
 go_wp2_with (at_builtin;refine wpList_cat (k:= .u8) (v:=v2) (u:= .slice ac3 (digs 8 b.work).length cc3) (w0:=W) (B:=W.heap.size) (wr:=wc3) (xs:=L2) (ys:=digs 8 b.work) rfl _ _ rfl Tryz.etyBytes rfl rfl hbk3 hBk3 HOc3.out HR3.out HLEN3.out.1 HLEN3.out.2 ?_)
 intro v3 w3 ho3 hb3
 have hp3:=Own.mono ho3 (F':=fun x=>False∨W.heap.size≤x) fun x _ h=>by first|exact h|exact .inr h
 obtain⟨L3,hL3⟩: ∃l,L2++digs 8 b.work=l:=⟨_,rfl⟩;have HL3:=Hd hL3
 have hn3:L3.length=L2.length+(digs 8 b.work).length:=by rw [←hL3,List.length_append]
 rw [hL3]at hp3;have HO3:=Hd hp3;clear hp3 ho3 hL3
 simp only [digs_len]at hn3
 clear x0 x1;obtain⟨x0,x1⟩:=box_cells (box_after hb3 HX.out);go_wp2_with fail
 refine(rDigits_any w3 b.nonce d4.1 d4.2 8 (by omega)).mono ?_
 intro e wc4 h
 obtain⟨ac4,cc4,rfl, -,hr4,hbc4⟩:=h.read;have HR4:=Hd hr4;have hbk4:=bnext hb3 hbc4;have hBk4:=hbk4.size;have HOc4:=Hd (HO3.out.keepB hbc4);clear h hr4
 have HLEN4:Hid (L3.length+(digs 8 b.nonce).length≤maxLen∧(L3.length+(digs 8 b.nonce).length)*1≤140737488355328):=by simp only [digs_len];unfold maxLen;constructor<;>omega
 go_wp2_with (at_builtin;refine wpList_cat (k:= .u8) (v:=v3) (u:= .slice ac4 (digs 8 b.nonce).length cc4) (w0:=W) (B:=W.heap.size) (wr:=wc4) (xs:=L3) (ys:=digs 8 b.nonce) rfl _ _ rfl Tryz.etyBytes rfl rfl hbk4 hBk4 HOc4.out HR4.out HLEN4.out.1 HLEN4.out.2 ?_)
 intro v4 w4 ho4 hb4
 have hp4:=Own.mono ho4 (F':=fun x=>False∨W.heap.size≤x) fun x _ h=>by first|exact h|exact .inr h
 obtain⟨L4,hL4⟩: ∃l,L3++digs 8 b.nonce=l:=⟨_,rfl⟩;have HL4:=Hd hL4
 have hn4:L4.length=L3.length+(digs 8 b.nonce).length:=by rw [←hL4,List.length_append]
 rw [hL4]at hp4;have HO4:=Hd hp4;clear hp4 ho4 hL4
 simp only [digs_len]at hn4
 clear x0 x1;obtain⟨x0,x1⟩:=box_cells (box_after hb4 HX.out);go_wp2_with fail
 refine(rInt_any w4 b.txs.length (by omega)).mono ?_
 intro e wc5 h
 obtain⟨ac5,cc5,rfl, -,hr5,hbc5⟩:=h.read;have HR5:=Hd hr5;have hbk5:=bnext hb4 hbc5;have hBk5:=hbk5.size;have HOc5:=Hd (HO4.out.keepB hbc5);clear h hr5
 have HLEN5:Hid (L4.length+(digs 4 (b.txs.length:Int)).length≤maxLen∧(L4.length+(digs 4 (b.txs.length:Int)).length)*1≤140737488355328):=by simp only [digs_len];unfold maxLen;constructor<;>omega
 go_wp2_with (at_builtin;refine wpList_cat (k:= .u8) (v:=v4) (u:= .slice ac5 (digs 4 (b.txs.length:Int)).length cc5) (w0:=W) (B:=W.heap.size) (wr:=wc5) (xs:=L4) (ys:=digs 4 (b.txs.length:Int)) rfl _ _ rfl Tryz.etyBytes rfl rfl hbk5 hBk5 HOc5.out HR5.out HLEN5.out.1 HLEN5.out.2 ?_)
 intro v5 w5 ho5 hb5
 have hp5:=Own.mono ho5 (F':=fun x=>False∨W.heap.size≤x) fun x _ h=>by first|exact h|exact .inr h
 obtain⟨L5,hL5⟩: ∃l,L4++digs 4 (b.txs.length:Int)=l:=⟨_,rfl⟩;have HL5:=Hd hL5
 have hn5:L5.length=L4.length+(digs 4 (b.txs.length:Int)).length:=by rw [←hL5,List.length_append]
 rw [hL5]at hp5;have HO5:=Hd hp5;clear hp5 ho5 hL5
 simp only [digs_len]at hn5
 have HF:Hid (headS b=L5):=by
   show _=_
   rw [←HL5.out,←HL4.out,←HL3.out,←HL2.out,←HL1.out]
   rfl
 go_wp2_with fail;go_ret;rw [HF.out];have hsz:=HB.out.size
 have hz:=(HO5.out.lower hsz).mono (F':=fun x=>False∨w.heap.size≤x) fun k _ hk=>by
   rcases hk with hk|hk
   · exact .inl hk
   · exact .inr (by omega)
 exact⟨v5,rfl,hz,HB.out.trans (hb5.mono hsz)⟩
def NamOut (b:BlkM)(w:World)(e:Ending)(w':World):Prop:= ∃(ys:List Int) (a:Option Addr) (cap:Nat),Hid (ys=headB b (idsT b.txs))∧Hid (ys.length≤1000)∧e= .returned (.slice a ys.length cap)∧bytesR.rel (fun _=>True) w' [.slice a ys.length cap] ys∧Below w.heap.size w w'
theorem rNamed_any (S:Nat→Prop)(w:World)(b:BlkM)(xa:Option Addr)(xc:Nat)(h:BlkIn S w b xa xc)(hh:1≤b.height)(hh2:b.height≤1048576)(hl:b.txs.length≤64):
   Calls Tryz.prog 59 #[.agg #[.int .u64 b.parent,.int .i64 b.height,.int .u64 b.miner,.int .u64 b.work,.int .u64 b.nonce,.slice xa b.txs.length xc]] w (NamOut b w):=by
 have hbA:=bnew (Below.refl w.heap.size w) (.cells #[.int .u64 b.parent,.int .i64 b.height,.int .u64 b.miner,.int .u64 b.work,.int .u64 b.nonce,.slice xa b.txs.length xc] 48);have HX:=Hd (box_new w (.cells #[.int .u64 b.parent,.int .i64 b.height,.int .u64 b.miner,.int .u64 b.work,.int .u64 b.nonce,.slice xa b.txs.length xc] 48));have H:=Hd (h.keepB hbA);have HB:=Hd hbA;clear hbA h
 go_enter Tryz.func59,Tryz.ntmps59
 go_upto_region 1 with(fail)
 generalize w.alloc (.cells #[.int .u64 b.parent,.int .i64 b.height,.int .u64 b.miner,.int .u64 b.work,.int .u64 b.nonce,.slice xa b.txs.length xc] 48)=W at*;obtain⟨x0,x1⟩:=box_cells HX.out;go_wp2_with fail
 refine(rheader_any S W b xa xc H.out hh hh2 hl).mono ?_
 intro e w0 h
 obtain⟨a0,c0,rfl,ho0, -,hb0⟩:=h.read;have HO0:=Hd ho0;have hn0:=Hd (headS_len b);obtain⟨L0,hL0⟩: ∃l,headS b=l:=⟨_,rfl⟩;have HL0:=Hd hL0;rw [hL0]at HO0 hn0⊢
 have hn0':Hid (L0.length≤40):=by show _≤_;have:=hn0.out;omega
 clear h ho0 hn0 x0 x1 hL0;go_wp2_with fail
 go_loopw [3,4] (fun vb vi wr=> ∃(k:Nat) (L:List Int),k≤b.txs.length∧vi= .int .i64 k∧Own u8R W.heap.size 5 (fun x=>False∨W.heap.size≤x) wr vb L∧Below W.heap.size W wr∧Hid (L=L0++digsAll (idsT (b.txs.take k)))∧L.length≤40+8*k) (fun _ vi _=>b.txs.length-(intOf vi).toNat)
 case atStart=>exact⟨0,L0,Nat.zero_le _,rfl,HO0.out,hb0,by show _=_;simp [idsT,digsAll],by have:=hn0'.out;omega⟩
 case round=>
   obtain⟨k,L,hk,rfl,hor,hbr,hLk,hLl⟩:=hrel;clear hb0 HO0;have HOR:=Hd hor;clear hor;obtain⟨x0,x1⟩:=box_cells (box_after hbr HX.out)
   by_cases hlt:k<b.txs.length
   · obtain⟨bb,off,ma,oa,pa,mc,oc,pc,rfl,hbl,ht,c0,c1,c2,c3,c4,c5,c6,c7,c8,c9⟩:=txs_at (txsR.keepB H.out.txs hbr) k hlt
     have HT:Hid (digsAll (idsT (b.txs.take (k+1)))=digsAll (idsT (b.txs.take k))++digs 8 (idT b.txs[k])):=by
       show _=_
       rw [List.take_succ_eq_append_getElem hlt];unfold idsT;rw [List.map_append]
       exact digsAll_snoc _ _
     generalize b.txs[k]=t at*;have HT2:=Hd ht;clear ht;go_wp2_with fail
     refine(rtxID_any _ wr t ma oa pa mc oc pc HT2.out).mono ?_
     rintro e w3 ⟨rfl,hb3⟩;have di:=idT_in t;have hbr3:=bnext hbr hb3;have HOR3:=Hd (HOR.out.keepB hb3);generalize idT t=id at*;clear x0 x1 c0 c1 c2 c3 c4 c5 c6 c7 c8 c9 HOR;go_wp2_with fail
     refine(rDigits_any w3 id (by omega) (by omega) 8 (by omega)).mono ?_
     intro e wc4 h
     obtain⟨ac4,cc4,rfl, -,hr4,hbc4⟩:=h.read;have HR4:=Hd hr4;have hbk4:=bnext hbr3 hbc4;have hBk4:=hbk4.size;have HOc4:=Hd (HOR3.out.keepB hbc4);clear h hr4
     have HLEN4:Hid (L.length+(digs 8 id).length≤maxLen∧(L.length+(digs 8 id).length)*1≤140737488355328):=by simp only [digs_len];unfold maxLen;constructor<;>omega
     go_wp2_with (at_builtin;refine wpList_cat (k:= .u8) (v:=u3) (u:= .slice ac4 (digs 8 id).length cc4) (w0:=W) (B:=W.heap.size) (wr:=wc4) (xs:=L) (ys:=digs 8 id) rfl _ _ rfl Tryz.etyBytes rfl rfl hbk4 hBk4 HOc4.out HR4.out HLEN4.out.1 HLEN4.out.2 ?_)
     intro v4 w4 ho4 hb4
     have hp4:=Own.mono ho4 (F':=fun x=>False∨W.heap.size≤x) fun x _ h=>by first|exact h|exact .inr h
     obtain⟨L4,hL4⟩: ∃l,L++digs 8 id=l:=⟨_,rfl⟩;have HL4:=Hd hL4
     have hn4:L4.length=L.length+(digs 8 id).length:=by rw [←hL4,List.length_append]
     rw [hL4]at hp4;have HO4:=Hd hp4;clear hp4 ho4 hL4
     simp only [digs_len]at hn4
     go_wp2_with fail
     go_roundw
     case rel=>exact⟨k+1,L4,by omega,by go_num,HO4.out,hb4,by show _=_;rw [←HL4.out,hLk.out,HT.out,List.append_assoc],by omega⟩
     case measure=>simp [intOf];omega
   · obtain rfl:k=b.txs.length:=by omega
     rw [List.take_length]at hLk;obtain⟨a9,c9,rfl, -, -⟩:=sliceR.form HOR.out.slice
     have HR:=Hd (bytesR.mono HOR.out.slice (S':=fun _=>True) fun _ _ _=>trivial)
     have HYS:Hid (L=headB b (idsT b.txs)):=by show _=_;rw [hLk.out,←HL0.out];rfl
     clear HOR;go_wp2_with fail;go_ret
     exact⟨L,a9,c9,HYS,by show _≤_;omega,rfl,HR.out,bnext HB.out hbr⟩
theorem rblkID_any (S:Nat→Prop)(w:World)(b:BlkM)(xa:Option Addr)(xc:Nat)(h:BlkIn S w b xa xc):
   Calls Tryz.prog 25 #[.agg #[.int .u64 b.parent,.int .i64 b.height,.int .u64 b.miner,.int .u64 b.work,.int .u64 b.nonce,.slice xa b.txs.length xc]] w fun e w'=>e= .returned (.int .u64 (blkID b))∧Below w.heap.size w w':=by
 have hbA:=bnew (Below.refl w.heap.size w) (.cells #[.int .u64 b.parent,.int .i64 b.height,.int .u64 b.miner,.int .u64 b.work,.int .u64 b.nonce,.slice xa b.txs.length xc] 48);have HX:=Hd (box_new w (.cells #[.int .u64 b.parent,.int .i64 b.height,.int .u64 b.miner,.int .u64 b.work,.int .u64 b.nonce,.slice xa b.txs.length xc] 48));have H:=Hd (h.keepB hbA);have HB:=Hd hbA;clear hbA h
 go_enter Tryz.func25,Tryz.ntmps25
 go_upto_region 1 with(fail)
 generalize w.alloc (.cells #[.int .u64 b.parent,.int .i64 b.height,.int .u64 b.miner,.int .u64 b.work,.int .u64 b.nonce,.slice xa b.txs.length xc] 48)=W at*;obtain⟨x0,x1⟩:=box_cells HX.out;go_wp2_with fail
 refine(rblkValid_any S W b xa xc H.out).mono ?_
 rintro e w1 ⟨rfl,hb1⟩;clear x0 x1
 by_cases hv:blkE b=0
 · have HF:Hid (blkID b=hashS 15 (packS (headB b (idsT b.txs)))):=by show _=_;unfold blkID;rw [if_pos hv];rfl
   obtain⟨f1,f2,f3,f4,f5,f6,f7⟩:=blkE_head hv;rw [hv];clear hv;obtain⟨x0,x1⟩:=box_cells (box_after hb1 HX.out);go_wp2_with fail
   refine(rNamed_any S w1 b xa xc (H.out.keepB hb1) f1 f2 f7).mono ?_
   rintro e w3 ⟨ys,a3,c3,hys,hyl,rfl,hr3,hb3⟩;have HR3:=Hd hr3;rw [←hys.out]at HF;clear hr3 x0 x1 hys;go_wp2_with fail
   refine(rHashBytes_any (fun _=>True) w3 15 (by omega) a3 _ c3 ys rfl HR3.out (by have:=hyl.out;omega)).mono ?_
   rintro e w4 ⟨rfl,hb4⟩;go_wp2_with fail;go_ret
   exact⟨ret_int HF.out.symm,bnext HB.out (bnext hb1 (bnext hb3 hb4))⟩
 · have HF:Hid (blkID b=0):=by show _=_;unfold blkID;rw [if_neg hv]
   have z1:(blkE b==0)=false:=by rw [beq_eq_false_iff_ne];exact hv
   have z2:(blkE b != 0)=true:=by rw [bne_iff_ne];exact hv
   obtain⟨r,hr⟩: ∃r,blkE b=r:=⟨_,rfl⟩;rw [hr]at z1 z2⊢;clear hr hv;go_wp2_with fail;go_ret
   exact⟨ret_int HF.out.symm,bnext HB.out hb1⟩
end Go.Proofs.YtjknlhiimmbilaaGreatDoor
