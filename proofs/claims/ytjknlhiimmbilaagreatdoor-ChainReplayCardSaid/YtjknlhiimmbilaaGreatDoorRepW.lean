/- The law ChainReplay: its walk. -/
import Derived.Test.YtjknlhiimmbilaaGreatDoorMRp
import Derived.Test.YtjknlhiimmbilaaGreatDoorMSn
import Derived.Test.YtjknlhiimmbilaaGreatDoorMCz
import Derived.Test.YtjknlhiimmbilaaGreatDoorMPe
set_option maxRecDepth 100000
set_option maxHeartbeats 8000000
namespace Go.Proofs.YtjknlhiimmbilaaGreatDoor
open Go.ChangeShapes Go.WideShapes Go.ChangeAt Go.RowKit Go.Sort
def SubRep (c:Nat)(SB PI:Nat→Prop)(v:ChV)(w:World)(r:RuM)(m:ChM)(e:Ending)(w':World):Prop:=
 ∃(x y z:Int) (m':ChM) (SB' PI':Nat→Prop) (v':ChV),e= .returned (.tuple #[.int .i64 x,.int .i64 y,.int .i64 z])∧ChAt c SB' PI' w' r m' (blksS m'.L m'.best) v'∧ChStp c SB PI v w SB' PI' v' w'∧ChOK r m'∧ChkI r m'∧m'.L.length≤m.L.length+1
theorem small_sizes {b:BlkM}(h:smallBk b=true): ∀t∈b.txs,t.marks.length≤100∧t.outs.length≤100∧t.proof.length≤1000000∧ ∀o∈t.outs,o.cipher.length≤1000:=fun t ht=>by
 obtain⟨h1,h2,h3,h4⟩:=(smallBk_of h).2 t ht
 exact⟨by omega,by omega,by omega,fun o ho=>by have:=h4 o ho;omega⟩
theorem submit_rep (c:Nat)(SB PI:Nat→Prop)(w:World)(r:RuM)(hr:RuOK r)(hmo:r.mode=2)(m:ChM)(v:ChV)(h:ChAt c SB PI w r m (blksS m.L m.best) v)(ok:ChOK r m)(hc:ChkI r m)(hn:m.L.length≤100)(S:Nat→Prop)(b:BlkM)(xa:Option Addr)(xc:Nat)(hb:BlkIn S w b xa xc)(hS: ∀k,S k→ ¬ChMut c v k)(hsm:smallBk b=true):
   Calls Tryz.prog 18 #[.pointer (some ⟨c,0,none⟩),.agg #[.int .u64 b.parent,.int .i64 b.height,.int .u64 b.miner,.int .u64 b.work,.int .u64 b.nonce,.slice xa b.txs.length xc]] w (SubRep c SB PI v w r m):=
 (submit_any c SB PI w r hr hmo m v h ok hn S b xa xc hb hS (small_sizes hsm)).mono fun _ _ hso=>by
   rcases hso with⟨-,rfl,PI',pv',hat,hst⟩|⟨hz,rfl,ya,yc,SB',PI',v',hat,hst⟩
   · exact⟨_,_,_,m,SB,PI',_,rfl,hat,hst,ok,hc,Nat.le_succ _⟩
   · exact⟨_,_,_,_,SB',PI',v',rfl,hat,hst,sub_ok ok (by have:=hr.f0;omega) (sub_zero hz) hb.pos ya yc,chk_sub hc (sub_zero hz) hsm ya yc,by rw [subM_L,addM_len];exact Nat.le_refl _⟩
theorem submit_yes (c:Nat)(SB PI:Nat→Prop)(w:World)(r:RuM)(hr:RuOK r)(hmo:r.mode=2)(m:ChM)(v:ChV)(h:ChAt c SB PI w r m (blksS m.L m.best) v)(ok:ChOK r m)(hn:m.L.length≤100)(S:Nat→Prop)(b:BlkM)(xa:Option Addr)(xc:Nat)(hb:BlkIn S w b xa xc)(hS: ∀k,S k→ ¬ChMut c v k)(hsm: ∀t∈b.txs,t.marks.length≤100∧t.outs.length≤100∧t.proof.length≤1000000∧ ∀o∈t.outs,o.cipher.length≤1000)(hs:SubOK r m b)(hu:cntU m b=0)(ha:cntA m b=1):
   Calls Tryz.prog 18 #[.pointer (some ⟨c,0,none⟩),.agg #[.int .u64 b.parent,.int .i64 b.height,.int .u64 b.miner,.int .u64 b.work,.int .u64 b.nonce,.slice xa b.txs.length xc]] w fun e w'=>e= .returned (.tuple #[.int .i64 0,.int .i64 1,.int .i64 0])∧ ∃(ya:Option Addr) (yc:Nat) (SB' PI':Nat→Prop) (v':ChV),ChAt c SB' PI' w' r (subM r m b ya yc) (blksS (subM r m b ya yc).L (subM r m b ya yc).best) v'∧ChStp c SB PI v w SB' PI' v' w'∧ChOK r (subM r m b ya yc):=
 (submit_any c SB PI w r hr hmo m v h ok hn S b xa xc hb hS hsm).mono fun _ _ hso=>by
   rcases hso with⟨hne, -⟩|⟨-,rfl,ya,yc,SB',PI',v',hat,hst⟩
   · exact absurd (sub_of hs) hne
   · exact⟨by rw [hu,ha],ya,yc,SB',PI',v',hat,hst,sub_ok ok (by have:=hr.f0;omega) hs hb.pos ya yc⟩
theorem best_in {S:Nat→Prop}{w:World}{a:Option Addr}{len cap:Nat}{l:List Int}(h:numsR.rel S w [.slice a len cap] l){z0 z1:Nat}(h0: ∀k,S k→z0≤k)(hz:w.heap.size≤z1):numsR.rel (fun k=>z0≤k∧k<z1) w [.slice a len cap] l:=
 numsR.mono (numsR.bound h) fun k _ hk=>⟨h0 k hk.1,by omega⟩
theorem replay_law (w:World)(r:RuM)(hrw:okU r.rew)(l:List BlkM)(la:Option Addr)(lc:Nat)(h:blksR.rel (fun k=>k<w.heap.size) w [.slice la l.length lc] l):
   Calls Tryz.prog 4 #[.agg #[.int .i64 r.mode,.int .i64 r.depth,.int .i64 r.bl,.int .i64 r.bu,.int .i64 r.qu,.int .u64 r.rew,.int .i64 r.win,.int .i64 r.fin,.int .u64 r.work],.slice la l.length lc] w fun e w'=>e= .returned (.bool true)∧Below w.heap.size w w':=by
 have g1:=(sliceR.lens h).2;unfold maxLen at g1;have hbA:=bnew (Below.refl w.heap.size w) (.cells #[.int .i64 r.mode,.int .i64 r.depth,.int .i64 r.bl,.int .i64 r.bu,.int .i64 r.qu,.int .u64 r.rew,.int .i64 r.win,.int .i64 r.fin,.int .u64 r.work] 26);have HX:=Hd (box_new w (.cells #[.int .i64 r.mode,.int .i64 r.depth,.int .i64 r.bl,.int .i64 r.bu,.int .i64 r.qu,.int .u64 r.rew,.int .i64 r.win,.int .i64 r.fin,.int .u64 r.work] 26));have H:=Hd (blksR.keepB h hbA);have HB:=Hd hbA
 have HWS:Hid ((w.alloc (.cells #[.int .i64 r.mode,.int .i64 r.depth,.int .i64 r.bl,.int .i64 r.bu,.int .i64 r.qu,.int .u64 r.rew,.int .i64 r.win,.int .i64 r.fin,.int .u64 r.work] 26)).heap.size=w.heap.size+1):=by show _=_;rw [World.size_alloc]
 clear hbA h
 go_enter Tryz.func4,Tryz.ntmps4
 go_upto_region 1 with(fail)
 generalize w.alloc (.cells #[.int .i64 r.mode,.int .i64 r.depth,.int .i64 r.bl,.int .i64 r.bu,.int .i64 r.qu,.int .u64 r.rew,.int .i64 r.win,.int .i64 r.fin,.int .u64 r.work] 26)=W at*;go_wp2_with fail
 refine(awake48_any W).mono ?_
 rintro e w1 ⟨rfl,hb1⟩;obtain⟨x0,x1⟩:=box_cells (box_after hb1 HX.out);go_wp2_with fail
 refine(right_any _ w1 r.mode r.depth r.bl r.bu r.qu r.rew r.win r.fin r.work l la lc 12 (blksR.keepB H.out hb1)).mono ?_
 rintro e w2 ⟨rfl,hb2⟩;have HB2:=Hd (bnext hb1 hb2);clear x0 x1 hb1 hb2;obtain⟨rt,hrt⟩: ∃x,rightL r.mode r.depth r.bl r.bu r.qu r.rew r.win r.fin r.work l 12=x:=⟨_,rfl⟩;have HRT:=Hd hrt;rw [hrt];clear hrt
 cases rt with
 |false=>
  go_wp2_with fail
  refine(awake48_any w2).mono ?_
  rintro e w3 ⟨rfl,hb3⟩;go_wp2_with fail;go_ret
  exact⟨rfl,bnext HB.out (bnext HB2.out hb3)⟩
 |true=>
  have HRR:Hid ((∀b∈l,smallBk b=true)∧r.mode=2∧l.length≤12∧ruleE r=0):=by
    have h1:=HRT.out;unfold rightL at h1
    simp only [Bool.and_eq_true,beq_iff_eq]at h1
    obtain⟨h2,h3, -,h4⟩:=fewB_of h1.1
    exact⟨h2,h3,by omega,h1.2⟩
  have HMO:=Hd HRR.out.2.1;have HL12:Hid (l.length≤12):=HRR.out.2.2.1;have HRU:=Hd (ruleE_ok HRR.out.2.2.2 hrw);have HRE:=Hd HRR.out.2.2.2;have HSMB:=Hd HRR.out.1;clear HRT HRR;obtain⟨x0,x1⟩:=box_cells (box_after HB2.out HX.out);go_wp2_with fail
  refine(begin48S_any w2 r HMO.out HRE.out hrw).mono ?_
  rintro e w5 ⟨c,PI,SB,v,rfl,hat,hmu,hpi,hsb,hb5⟩;have HAT:=Hd hat
  have HMU:Hid (∀k,ChMut c v k→W.heap.size≤k):=fun k hk=>Nat.le_trans HB2.out.size (hmu k hk)
  have HB5:=Hd (bnext HB2.out hb5);clear x0 x1 hat hmu hpi hsb hb5 HB2
  go_upto_region 4 with(refine wpList_store_row rfl _ _ _ rfl w5.heap.size _ rfl rfl _ _ (box_new w5 _) (by kernel_rfl) rfl (by kernel_rfl) ?_)
  obtain⟨w6,hw6,HB6,HAT6⟩: ∃x,_=x∧Hid (Below W.heap.size W x)∧Hid (ChAt c SB PI x r ⟨[],[],0,0⟩ [] v):=
    ⟨_,rfl,bnext HB5.out (below_setRow (g:=w5.heap.size) (bnew (Below.refl _ _) _) (Nat.le_refl _) _),HAT.out.keepB (below_setRow (g:=w5.heap.size) (bnew (Below.refl _ _) _) (Nat.le_refl _) _)⟩
  rw [hw6];clear hw6 HB5 HAT;obtain⟨x0,x1⟩:=box_cells (box_after HB6.out HX.out);go_wp2_with fail
  refine(begin48S_any w6 r HMO.out HRE.out hrw).mono ?_
  rintro e w7 ⟨d,PI2,SB2,v2,rfl,hat2,hmu2,hpi2,hsb2,hb7⟩
  have HAP:Hid (Apart c SB PI v d SB2 PI2 v2):=⟨fun k hk=>by
      have h1:=HAT6.out.mut_lt k hk
      exact⟨fun h=>by have:=hsb2 k h;omega,fun h=>by have:=hpi2 k h;omega,fun h=>by have:=hmu2 k h;omega⟩,
    fun k hk=>by
      have h1:=hmu2 k hk
      exact⟨fun h=>by have:=HAT6.out.lt k h;omega,fun h=>by have:=HAT6.out.state.lt k h;omega,fun h=>by have:=HAT6.out.mut_lt k h;omega⟩⟩
  have HAT7:=Hd hat2;have HCT7:=Hd (HAT6.out.keepB hb7)
  have HMU2:Hid (∀k,ChMut d v2 k→W.heap.size≤k):=fun k hk=>Nat.le_trans HB6.out.size (hmu2 k hk)
  have HB7:=Hd (bnext HB6.out hb7);clear x0 x1 hat2 hmu2 hpi2 hsb2 hb7 HAT6 HB6
  go_upto_region 5 with(refine wpList_store_row rfl _ _ _ rfl w7.heap.size _ rfl rfl _ _ (box_new w7 _) (by kernel_rfl) rfl (by kernel_rfl) ?_)
  obtain⟨w8,hw8,HB8,HCT8,HDT8⟩: ∃x,_=x∧Hid (Below W.heap.size W x)∧Hid (ChAt c SB PI x r ⟨[],[],0,0⟩ [] v)∧Hid (ChAt d SB2 PI2 x r ⟨[],[],0,0⟩ [] v2):=
    ⟨_,rfl,bnext HB7.out (below_setRow (g:=w7.heap.size) (bnew (Below.refl _ _) _) (Nat.le_refl _) _),HCT7.out.keepB (below_setRow (g:=w7.heap.size) (bnew (Below.refl _ _) _) (Nat.le_refl _) _),HAT7.out.keepB (below_setRow (g:=w7.heap.size) (bnew (Below.refl _ _) _) (Nat.le_refl _) _)⟩
  rw [hw8];clear hw8 HB7 HCT7 HAT7;obtain⟨x0,x1⟩:=box_cells (box_after HB8.out HX.out);go_wp2_with fail
  refine(poNew_any w8 r HRE.out hrw).mono ?_
  rintro e w9 ⟨p,I,pv,rfl,hpa,hpm,hpI,hb9⟩;have HPA:=Hd hpa;have HPC:=Hd (ApartP.made HCT8.out hpm hpI);have HPD:=Hd (ApartP.made HDT8.out hpm hpI)
  have HPM:Hid (∀k,PoMut p pv k→W.heap.size≤k):=fun k hk=>Nat.le_trans HB8.out.size (hpm k hk)
  have HCT9:=Hd (HCT8.out.keepB hb9);have HDT9:=Hd (HDT8.out.keepB hb9);have HB9:=Hd (bnext HB8.out hb9);clear x0 x1 hpa hpm hpI hb9 HCT8 HDT8 HB8;go_wp2_with fail
  go_loopw [68] (fun vi wr=> ∃(k:Nat) (m:ChM) (SB PI:Nat→Prop) (v:ChV),k≤l.length∧vi= .int .i64 k∧Hid (ChOK r m)∧Hid (ChkI r m)∧Hid (m.L.length≤k)∧Hid (ChAt c SB PI wr r m (blksS m.L m.best) v)∧Hid (ChAt d SB2 PI2 wr r ⟨[],[],0,0⟩ [] v2)∧Hid (PoAt p I wr r (newP r) pv)∧Hid (Apart c SB PI v d SB2 PI2 v2)∧Hid (ApartP p I pv c SB PI v)∧Hid (∀j,ChMut c v j→W.heap.size≤j)∧Hid (Below W.heap.size W wr)) (fun vi _=>l.length-(intOf vi).toNat)
  case atStart=>exact⟨0,⟨[],[],0,0⟩,SB,PI,v,Nat.zero_le _,rfl,newCh_ok r,chk_new r,Nat.le_refl _,HCT9,HDT9,HPA,HAP,HPC,HMU,HB9⟩
  case round=>
    clear HCT9 HDT9 HPA HAP HPC HMU HB9;obtain⟨k,m,SB,PI,v,hk,rfl,HOK,HCK,HLN,HCT,HDT,HPA,HAP,HPC,HMU,HBR⟩:=hrel
    by_cases hlt:k<l.length
    · as_aux_lemma=>
      obtain⟨bb,off,xa,xc,rfl,hbl,hb,c0,c1,c2,c3,c4,c5⟩:=blks_at (blksR.keepB H.out HBR.out) k hlt;have HSB:Hid (smallBk l[k]=true):=HSMB.out _ (List.getElem_mem hlt);obtain⟨b,hbq⟩: ∃x,l[k]=x:=⟨_,rfl⟩;rw [hbq]at hb c0 c1 c2 c3 c4 c5 HSB;clear hbq;have hbn:=bnew (Below.refl wr.heap.size wr) (.cells #[.int .u64 b.parent,.int .i64 b.height,.int .u64 b.miner,.int .u64 b.work,.int .u64 b.nonce,.slice xa b.txs.length xc] 48);have HXB:=Hd (box_new wr (.cells #[.int .u64 b.parent,.int .i64 b.height,.int .u64 b.miner,.int .u64 b.work,.int .u64 b.nonce,.slice xa b.txs.length xc] 48));have HC1:=Hd (HCT.out.keepB hbn);have HD1:=Hd (HDT.out.keepB hbn);have HP1:=Hd (HPA.out.keepB hbn);have HB1:=Hd (bnext HBR.out hbn);have HIN:=Hd (hb.keepB hbn);clear hbn HCT HDT HPA HBR hb
      go_upto_region 11 with(fail)
      clear c0 c1 c2 c3 c4 c5;generalize wr.alloc (.cells #[.int .u64 b.parent,.int .i64 b.height,.int .u64 b.miner,.int .u64 b.work,.int .u64 b.nonce,.slice xa b.txs.length xc] 48)=wn at*;obtain⟨X,hX⟩: ∃X,wr.heap.size=X:=⟨_,rfl⟩;rw [hX]at HXB⊢;clear hX;obtain⟨x0,x1⟩:=box_cells HXB.out;go_wp2_with fail
      refine(submit_rep c SB PI wn r HRU.out HMO.out m v HC1.out HOK.out HCK.out (by have:=HLN.out;have:=HL12.out;omega) _ b xa xc HIN.out (fun j hj hm=>by have h1:=HMU.out j hm;have h2:=HWS.out;have h3:j<w.heap.size:=hj;omega) HSB.out).mono ?_
      rintro e wa ⟨xx,yy,zz,m',SB',PI',v',rfl,hat',hst',hok',hck',hln'⟩;obtain⟨hbz, -,hmz⟩:=stp_below HB1.out HB1.out.size HMU.out hst';obtain⟨hdt,hap⟩:=HAP.out.step HD1.out hst';obtain⟨hpt,hpc⟩:=HPC.out.chain HP1.out hst';have HBZ:=Hd hbz;have HMZ:=Hd hmz;have HC2:=Hd hat';have HD2:=Hd hdt;have HP2:=Hd hpt;have HA2:=Hd hap;have HQ2:=Hd hpc;have HOK':=Hd hok';have HCK':=Hd hck'
      have HLN':Hid (m'.L.length≤k+1):=by show _≤_;have:=HLN.out;omega
      clear hbz hmz hat' hst' hok' hck' hln' hdt hap hpt hpc HC1 HD1 HP1 HB1 HAP HPC HMU HOK HCK HLN HIN HXB HSB x0 x1;go_wp2_with fail
      go_roundw
      case rel=>exact⟨k+1,m',SB',PI',v',by omega,by go_num,HOK',HCK',HLN',HC2,HD2,HP2,HA2,HQ2,HMZ,HBZ⟩
      case measure=>simp [intOf];omega
    · obtain rfl:k=l.length:=by omega
      obtain⟨wq,hwq⟩: ∃x,x=wr:=⟨_,rfl⟩;subst hwq
      have HML:Hid (m.best.length≤12∧m.L.length≤12):=by
        have h1:=HOK.out.best.len HOK.out.high;have h2:=HLN.out;have h3:=HL12.out
        exact⟨by omega,by omega⟩
      go_wp2_with fail
      refine(best_any c SB PI wq r m (blksS m.L m.best) v HCT.out (by have:=HML.out.1;omega)).mono ?_
      rintro e wb ⟨u,rfl,hu,hb1⟩;obtain⟨ua,uc,rfl, -, -⟩:=own_form hu;have HZW:Hid (W.heap.size≤wq.heap.size∧wq.heap.size≤wb.heap.size):=⟨HBR.out.size,hb1.size⟩
      have HFD:Hid (FarM W.heap.size wq.heap.size wb.heap.size (ChMut d v2)):=fun j hj=>⟨HMU2.out j hj,.inl (HDT.out.mut_lt j hj)⟩
      have HFP:Hid (FarM W.heap.size wq.heap.size wb.heap.size (PoMut p pv)):=fun j hj=>⟨HPM.out j hj,.inl (HPA.out.mut_lt j hj)⟩
      have HU:=Hd (best_in hu.slice (z0:=wq.heap.size) (fun k hk=>hk) (Nat.le_refl _))
      have HCB:=Hd (HCT.out.keepB hb1);have HDB:=Hd (HDT.out.keepB hb1);have HPB:=Hd (HPA.out.keepB hb1);have HBB:=Hd (bnext HBR.out hb1);clear hu hb1 HCT HDT HPA HBR HMU2 HPM HMU;obtain⟨z0,hz0⟩: ∃x,wq.heap.size=x:=⟨_,rfl⟩;obtain⟨z1,hz1⟩: ∃x,wb.heap.size=x:=⟨_,rfl⟩;rw [hz0,hz1]at HFD HFP HZW;rw [hz0]at HU
      have HZ1:Hid (z1≤wb.heap.size):=by show _≤_;omega
      rw [hz1]at HU;clear hz0 hz1;go_wp2_with fail
      go_loopw [79] (fun vi wr=> ∃(i:Nat) (md:ChM) (SB2 PI2:Nat→Prop) (v2:ChV) (I:Nat→Prop) (pv:PoV),i≤m.best.length∧vi= .int .i64 i∧Hid (ChOK r md)∧Hid (RepI r m md i)∧Hid (ChAt c SB PI wr r m (blksS m.L m.best) v)∧Hid (ChAt d SB2 PI2 wr r md (blksS md.L md.best) v2)∧Hid (PoAt p I wr r (runW r ((blksS m.L m.best).take i)) pv)∧Hid (Apart c SB PI v d SB2 PI2 v2)∧Hid (ApartP p I pv c SB PI v)∧Hid (ApartP p I pv d SB2 PI2 v2)∧Hid (FarM W.heap.size z0 z1 (ChMut d v2))∧Hid (FarM W.heap.size z0 z1 (PoMut p pv))∧Hid (numsR.rel (fun k=>z0≤k∧k<z1) wr [.slice ua m.best.length uc] m.best)∧Hid (z1≤wr.heap.size)∧Hid (Below W.heap.size W wr)) (fun vi _=>m.best.length-(intOf vi).toNat)
      case atStart=>exact⟨0,⟨[],[],0,0⟩,SB2,PI2,v2,I,pv,Nat.zero_le _,rfl,newCh_ok r,rep_zero r m,HCB,HDB,HPB,HAP,HPC,HPD,HFD,HFP,HU,HZ1,HBB⟩
      case round=>
        clear HCB HDB HPB HAP HPC HPD HFD HFP HU HZ1 HBB;obtain⟨i,md,SB2,PI2,v2,I,pv,hi,rfl,HOD,HRI,HCT,HDT,HPA,HAP,HPC,HPD,HFD,HFP,HU,HZ1,HBR⟩:=hrel
        by_cases hlt:i<m.best.length
        · as_aux_lemma=>
          obtain⟨e,he⟩: ∃e,findS m.L m.best[i]=some e:=by obtain⟨e,h1, -⟩:=best_at HOK.out HCK.out i hlt;exact⟨e,h1⟩
          have hnx:=rep_next HRI.out HOK.out HCK.out HOD.out HRU.out hlt (by have:=HML.out.1;omega) e he
          obtain⟨hs,hid,hcu,hca,hap,hbi,hbo,hsm,hnx⟩:=hnx;have HSM:=Hd (small_sizes hsm);have HS:=Hd hs;have HCU:=Hd hcu;have HCA:=Hd hca;have HPE:=Hd hap;have HBI:=Hd hbi;have HBO:=Hd hbo;have HNX:=Hd hnx;have HEF:=Hd he;obtain⟨bb,off,hba,hbl,hx0,hx1,hcc⟩:=nums_at HU.out i hlt;obtain⟨x,hxq⟩: ∃x,m.best[i]=x:=⟨_,rfl⟩;have HXQ:=Hd hxq;rw [hxq]at hx0 hx1 hcc HEF HNX;subst hba
          have i0:(0:Int)≤(i:Int):=by omega
          have i1:(i:Int)<(m.best.length:Int):=by omega
          have hxo:okU x:=okU_of hx0 hx1
          have HS0:Hid (∀k,wr.heap.size≤k→ ¬PoMut p pv k):=fun k hk hm=>by have:=HPA.out.mut_lt k hm;omega
          clear hsm hs hid hcu hca hap hbi hbo hnx he hxq hbl hx1;go_wp2_with fail
          refine(block_any c SB PI wr r m (blksS m.L m.best) v HCT.out (fun e he=>(HOK.out.blk e he).1.valid) x hxo).mono ?_
          rintro e2 wa (⟨hn, -, -⟩|⟨s,ya,yc,hf2,rfl,hbi2,hb2⟩)
          · rw [HEF.out]at hn;simp at hn
          have hse:s=e:=by rw [HEF.out]at hf2;exact(Option.some.inj hf2).symm
          rw [←hse]at HSM HS HCU HCA HPE HBI HBO HNX;clear hf2 hse HEF
          as_aux_lemma=>
           have HIN:=Hd hbi2;have HB2:=Hd hb2;clear hbi2 hb2
           go_upto_region 17 with(refine wpList_store_row rfl _ _ _ rfl wa.heap.size _ rfl rfl _ _ (box_new wa (.cells #[.int .u64 0,.int .i64 0,.int .u64 0,.int .u64 0,.int .u64 0,.slice none 0 0] 48)) (by kernel_rfl) rfl (by kernel_rfl) ?_)
           obtain⟨w4,hw4,HB4,HY4⟩: ∃y,_=y∧Hid (Below wa.heap.size wa y)∧Hid (y.heap[wa.heap.size]? =some (.cells #[.int .u64 s.b.parent,.int .i64 s.b.height,.int .u64 s.b.miner,.int .u64 s.b.work,.int .u64 s.b.nonce,.slice ya s.b.txs.length yc] 48 (0,0))):=
             ⟨_,rfl,below_setRow (g:=wa.heap.size) (bnew (Below.refl _ _) (.cells #[.int .u64 0,.int .i64 0,.int .u64 0,.int .u64 0,.int .u64 0,.slice none 0 0] 48)) (Nat.le_refl _) #[.int .u64 s.b.parent,.int .i64 s.b.height,.int .u64 s.b.miner,.int .u64 s.b.work,.int .u64 s.b.nonce,.slice ya s.b.txs.length yc],setRow_heap _ _ _ _ _ _ (box_new wa (.cells #[.int .u64 0,.int .i64 0,.int .u64 0,.int .u64 0,.int .u64 0,.slice none 0 0] 48))⟩
           rw [hw4];clear hw4;have HBE:=Hd (bnext HB2.out HB4.out);have HI4:=Hd (HIN.out.keepB HB4.out);have HC4:=Hd (HCT.out.keepB HBE.out);have HD4:=Hd (HDT.out.keepB HBE.out);have HP4:=Hd (HPA.out.keepB HBE.out);have HU4:=Hd (numsR.keepB HU.out HBE.out);have HBS4:=Hd (bnext HBR.out HBE.out);have HZ4:Hid (z1≤w4.heap.size∧wr.heap.size≤w4.heap.size∧wr.heap.size≤wa.heap.size∧W.heap.size≤w4.heap.size):=⟨Nat.le_trans HZ1.out HBE.out.size,HBE.out.size,HB2.out.size,HBS4.out.size⟩
           have HDW:Hid (∀k,ChMut d v2 k→k<wr.heap.size):=fun k hk=>HDT.out.mut_lt k hk
           have HPW:Hid (∀k,PoMut p pv k→k<wa.heap.size):=fun k hk=>by have:=HPA.out.mut_lt k hk;have:=HZ4.out;omega
           clear HIN HB2 HB4 HBE HCT HDT HPA HU HBR HZ1 hcc
           as_aux_lemma=>
            obtain⟨y0,y1⟩:=box_cells HY4.out;go_wp2_with fail
            refine(apply_run p I w4 r HRU.out ((blksS m.L m.best).take i) (HOK.out.brun.take i) (by rw [List.length_take];have:=HML.out.1;omega) pv HP4.out _ s.b ya yc HI4.out HBO.out.txs (fun k hk=>HS0.out k hk)).mono ?_
            rw [HPE.out,apW_ok HPE.out,←run_succ HBI.out];rintro e3 w5 ⟨rfl,I',pv',hpa5,hk5,hv5,hi5⟩;obtain⟨hc5,hpc5⟩:=HPC.out.pool HC4.out hk5 hv5 hi5;obtain⟨hd5,hpd5⟩:=HPD.out.pool HD4.out hk5 hv5 hi5;have HP5:=Hd hpa5;have HC5:=Hd hc5;have HD5:=Hd hd5;have HQ5:=Hd hpc5;have HR5:=Hd hpd5;have HFP5:=Hd (HFP.out.step hv5 HZ4.out.1 HZ4.out.2.2.2)
            have HU5:=Hd (numsR.keep HU4.out (hk5.mono fun k _ hk hm=>by have h1:=(HFP.out k hm).2;omega))
            have HI5:Hid (BlkIn (fun k=>wr.heap.size≤k) w5 s.b ya yc):=HI4.out.keep (hk5.mono fun k _ hk=>HS0.out k hk)
            have HB5:Hid (Below W.heap.size W w5):=Kept.behind HBS4.out hk5 HZ4.out.2.2.2 fun k hk hm=>by have h1:=(HFP.out k hm).1;omega
            have HY5:=Hd (box_kept hk5 HY4.out (fun hm=>by have:=HPW.out _ hm;omega))
            have HZ5:Hid (z1≤w5.heap.size∧W.heap.size≤w5.heap.size):=⟨Nat.le_trans HZ4.out.1 hk5.size,Nat.le_trans HZ4.out.2.2.2 hk5.size⟩;clear hpa5 hk5 hv5 hi5 hc5 hpc5 hd5 hpd5 HP4 HC4 HD4 HPC HPD HFP HU4 HI4 HBS4 HY4 HZ4 HS0 HPW y0 y1
            as_aux_lemma=>
             obtain⟨y0,y1⟩:=box_cells HY5.out;go_wp2_with fail
             refine(submit_yes d SB2 PI2 w5 r HRU.out HMO.out md v2 HD5.out HOD.out (by rw [HRI.out.len];have:=HML.out.1;omega) _ s.b ya yc HI5.out (fun k hk hm=>by have h1:=HDW.out k hm;have h2:wr.heap.size≤k:=hk;omega) HSM.out HS.out HCU.out HCA.out).mono ?_
             rintro e4 w6 ⟨rfl,za,zc,SB3,PI3,v3,hat3,hst3,hok3⟩;obtain⟨hri3,htip3,hlen3⟩:=HNX.out za zc;obtain⟨hc6,ha6⟩:=HAP.out.symm.step HC5.out hst3;obtain⟨hp6,hpd6⟩:=HR5.out.chain HP5.out hst3;have HD6:=Hd hat3;have HC6:=Hd hc6;have HA6:=Hd ha6.symm;have HP6:=Hd hp6;have HR6:=Hd hpd6;have HOD6:=Hd hok3;have HRI6:=Hd hri3;have HTP6:=Hd htip3;have HLN6:=Hd hlen3;have HFD6:=Hd (HFD.out.step hst3.turn HZ5.out.1 HZ5.out.2)
             have HU6:=Hd (numsR.keep HU5.out (hst3.kept.mono fun k _ hk hm=>by have h1:=(HFD.out k hm).2;omega))
             have HB6:Hid (Below W.heap.size W w6):=Kept.behind HB5.out hst3.kept HZ5.out.2 fun k hk hm=>by have h1:=(HFD.out k hm).1;omega
             have HZ6:Hid (z1≤w6.heap.size):=Nat.le_trans HZ5.out.1 hst3.kept.size;clear hri3 htip3 hlen3 hc6 ha6 hp6 hpd6 hat3 hst3 hok3 HD5 HC5 HAP HP5 HR5 HOD HRI HFD HU5 HB5 HZ5 HI5 HY5 HS HCU HCA HNX HPE HBI HBO HDW y0 y1;obtain⟨md',hmd⟩: ∃x,subM r md s.b za zc=x:=⟨_,rfl⟩;rw [hmd]at HD6 HOD6 HRI6 HTP6 HLN6;clear hmd
             as_aux_lemma=>
              go_wp2_with fail
              refine(tip_any d SB3 PI3 w6 r md' (blksS md'.L md'.best) v3 HD6.out (by have h1:=HLN6.out;have h2:=HML.out.1;omega)).mono ?_
              rw [HTP6.out,HLN6.out];rintro e5 w7 ⟨rfl,hb7⟩;have HD7:=Hd (HD6.out.keepB hb7);have HC7:=Hd (HC6.out.keepB hb7);have HP7:=Hd (HP6.out.keepB hb7);have HU7:=Hd (numsR.keepB HU6.out hb7);have HB7:=Hd (bnext HB6.out hb7);have HZ7:Hid (z1≤w7.heap.size):=Nat.le_trans HZ6.out hb7.size;clear hb7 HD6 HC6 HP6 HU6 HB6 HZ6
              as_aux_lemma=>
               have z1':(x != x)=false:=by simp
               have z2':wrap64 ((i:Int)+1)=(i:Int)+1:=by have:=HML.out.1;unfold wrap64;omega
               go_wp2_with fail
               as_aux_lemma=>
                go_roundw
                case rel=>exact⟨i+1,md',SB3,PI3,v3,I',pv',by omega,by go_num,HOD6,HRI6,HC7,HD7,HP7,HA6,HQ5,HR6,HFD6,HFP5,HU7,HZ7,HB7⟩
                case measure=>
                 rw [z2']
                 exact Nat.sub_lt_sub_left hlt (Nat.lt_succ_self i)
        · as_aux_lemma=>
          obtain rfl:i=m.best.length:=by omega
          have HRE1:Hid ((blksS m.L m.best).take m.best.length=blksS m.L m.best):=by show _=_;exact List.take_of_length_le (by rw [blks_len];exact Nat.le_refl _)
          have HRE2:Hid (blksS md.L md.best=blksS m.L m.best):=by show _=_;rw [HRI.out.blks HOD.out,HRE1.out]
          have HBL:Hid ((blksS m.L m.best).length≤200):=by show _≤_;rw [blks_len];have:=HML.out.1;omega
          have hpz:=HPA.out;rw [HRE1.out]at hpz;have HPZ:=Hd hpz;have HCZ:=Hd HCT.out.state;have hdz:=HDT.out.state;rw [HRE2.out]at hdz;have HDZ:=Hd hdz;have HRO:=Hd HOK.out.brun;clear hpz hdz HPA HRE1 HRE2;go_wp2_with fail
          refine(state_any c SB PI wr r m (blksS m.L m.best) v HCT.out).mono ?_
          rintro e wa ⟨rfl,hb1⟩;have HD1:=Hd (HDT.out.keepB hb1);have HK1:=Hd hb1;clear hb1 HCT HDT;go_wp2_with fail
          refine(state_any d SB2 PI2 wa r md (blksS md.L md.best) v2 HD1.out).mono ?_
          rintro e wb ⟨rfl,hb2⟩;have HK2:=Hd (bnext HK1.out hb2);clear hb2 HD1 HK1;obtain⟨bs,hbs⟩: ∃x,blksS m.L m.best=x:=⟨_,rfl⟩;rw [hbs]at HPZ HCZ HDZ HRO HBL;clear hbs;obtain⟨EL,hEL⟩: ∃x,encP r.win (runW r bs)=x:=⟨_,rfl⟩;have HEL:=Hd hEL;clear hEL;go_wp2_with fail;have HKB:=HK2
          refine wp_region_held_drew (S:=BelS wb) (by kernel_rfl) (⟨(Below.refl _ _).drew⟩) (fun hHeld=> ?_)
          go_simp
          refine wpAnyH_take (i:=0) (v:= ?_) rfl (by kernel_rfl) (by kernel_rfl) (by kernel_rfl) (fun _ _ _ h=>h) (Or.inl ⟨by rfl,?_⟩) (by assumption) ?_
          rotate_left
          · intro wz hSz
            go_simp
            all_goals with_reducible rfl
          go_simp
          refine wpAnyH_take (i:=1) (v:= ?_) rfl (by kernel_rfl) (by kernel_rfl) (by kernel_rfl) (fun _ _ _ h=>h) (Or.inl ⟨by rfl,?_⟩) (by assumption) ?_
          rotate_left
          · intro wz hSz
            go_simp
            all_goals with_reducible rfl
          go_simp
          refine wpAnyH_take (i:=2) (v:= ?_) rfl (by kernel_rfl) (by kernel_rfl) (by kernel_rfl) (fun _ _ _ h=>h) (Or.inl ⟨by rfl,?_⟩) (by assumption) ?_
          rotate_left
          · intro wz hSz
            go_simp
            all_goals with_reducible rfl
          go_simp
          refine wpAnyH_take (i:=3) (v:= ?_) rfl (by kernel_rfl) (by kernel_rfl) (by kernel_rfl) (fun _ _ _ h=>h) (Or.inl ⟨by rfl,?_⟩) (by assumption) ?_
          rotate_left
          · intro wz hSz
            go_simp
            all_goals with_reducible rfl
          go_simp
          refine wpAnyH_take (i:=4) (v:= ?_) rfl (by kernel_rfl) (by kernel_rfl) (by kernel_rfl) (fun _ _ _ h=>h) (Or.inl ⟨by rfl,?_⟩) (by assumption) ?_
          rotate_left
          · intro wz hSz
            go_simp
            all_goals with_reducible rfl
          go_simp
          refine wpAnyH_take (i:=5) (v:= ?_) rfl (by kernel_rfl) (by kernel_rfl) (by kernel_rfl) (fun _ _ _ h=>h) (Or.inl ⟨by rfl,?_⟩) (by assumption) ?_
          rotate_left
          · intro wz hSz
            go_simp
            all_goals with_reducible rfl
          go_simp
          refine wpAnyH_take (i:=6) (v:= ?_) rfl (by kernel_rfl) (by kernel_rfl) (by kernel_rfl) (fun _ _ _ h=>h) (Or.inl ⟨by rfl,?_⟩) (by assumption) ?_
          rotate_left
          · intro wz hSz
            go_simp
            all_goals with_reducible rfl
          go_simp
          refine wpAnyH_take (i:=7) (v:= ?_) rfl (by kernel_rfl) (by kernel_rfl) (by kernel_rfl) (fun _ _ _ h=>h) (Or.inl ⟨by rfl,?_⟩) (by assumption) ?_
          rotate_left
          · intro wz hSz
            go_simp
            all_goals with_reducible rfl
          go_simp
          refine wpAnyH_take (i:=10) (v:= ?_) rfl (by kernel_rfl) (by kernel_rfl) (by kernel_rfl) (fun _ _ _ h=>h) (Or.inl ⟨by rfl,?_⟩) (by assumption) ?_
          rotate_left
          · intro wz hSz
            go_simp
            all_goals with_reducible rfl
          go_simp
          refine wpAnyH_ready (rs:= [8]) (by kernel_rfl) (by simp) ?_
          refine AllReadyH.cons rfl (fun K hK=> ?_) AllReadyH.nil
          go_simp
          refine(encode_run v.p PI _ r HRU.out bs HRO.out HBL.out v.pv (HCZ.out.keepB (bnext HKB.out hHeld.bel))).mono ?_
          rintro e w3 ⟨y3,a3,c3,Ey3, -,rfl,h3,hb3⟩;have hbS3:=bnext hHeld.bel hb3;clear hHeld
          refine hK.out _ _ (⟨hbS3⟩) (fun hHeld=> ?_)
          clear hK K
          go_simp
          have hy3:=Ey3.out.trans HEL.out;subst hy3;have HX3:=Hd h3;have HKB3:=Hd (bnext HKB.out hHeld.bel)
          refine wpAnyH_more (S':=BelS w3) (fun wz hz=>BelS.next hHeld.bel hz) _ _ _ _ ?_
          replace hHeld:BelS w3 w3:=⟨Below.refl _ _⟩
          clear hb3 hbS3 h3 Ey3 HKB;have HKB:=HKB3;clear HKB3
          refine wpAnyH_take (i:=9) (v:= ?_) rfl (by kernel_rfl) (by kernel_rfl) (by kernel_rfl) (fun _ _ _ h=>h) (Or.inl ⟨by rfl,?_⟩) (by assumption) ?_
          rotate_left
          · intro wz hSz
            have s3:=conv_str (bytesR.keepB HX3.out hSz.bel)
            go_simp
            all_goals with_reducible rfl
          go_simp
          refine wpAnyH_ready (rs:= [11]) (by kernel_rfl) (by simp) ?_
          refine AllReadyH.cons rfl (fun K hK=> ?_) AllReadyH.nil
          go_simp
          refine(encode_run p I _ r HRU.out bs HRO.out HBL.out pv (HPZ.out.keepB (bnext HKB.out hHeld.bel))).mono ?_
          rintro e w4 ⟨y4,a4,c4,Ey4, -,rfl,h4,hb4⟩;have hbS4:=bnext hHeld.bel hb4;clear hHeld
          refine hK.out _ _ (⟨hbS4⟩) (fun hHeld=> ?_)
          clear hK K
          go_simp
          have hy4:=Ey4.out.trans HEL.out;subst hy4;have HX4:=Hd h4;have HKB4:=Hd (bnext HKB.out hHeld.bel)
          refine wpAnyH_more (S':=BelS w4) (fun wz hz=>BelS.next hHeld.bel hz) _ _ _ _ ?_
          replace hHeld:BelS w4 w4:=⟨Below.refl _ _⟩
          clear hb4 hbS4 h4 Ey4 HKB;have HKB:=HKB4;clear HKB4
          refine wpAnyH_take (i:=12) (v:= ?_) rfl (by kernel_rfl) (by kernel_rfl) (by kernel_rfl) (fun _ _ _ h=>h) (Or.inl ⟨by rfl,?_⟩) (by assumption) ?_
          rotate_left
          · intro wz hSz
            have s4:=conv_str (bytesR.keepB HX4.out hSz.bel)
            go_simp
            all_goals with_reducible rfl
          go_simp
          refine wpAnyH_take (i:=13) (v:= ?_) rfl (by kernel_rfl) (by kernel_rfl) (by kernel_rfl) (fun _ _ _ h=>h) (Or.inl ⟨by rfl,?_⟩) (by assumption) ?_
          rotate_left
          · intro wz hSz
            have z9:=str_self (strOfNums y4)
            go_simp
            all_goals with_reducible rfl
          go_simp
          refine wpAnyH_take (i:=14) (v:= ?_) rfl (by kernel_rfl) (by kernel_rfl) (by kernel_rfl) (fun _ _ _ h=>h) (Or.inl ⟨by rfl,?_⟩) (by assumption) ?_
          rotate_left
          · intro wz hSz
            go_simp
            all_goals with_reducible rfl
          go_simp
          refine wpAnyH_take (i:=15) (v:= ?_) rfl (by kernel_rfl) (by kernel_rfl) (by kernel_rfl) (fun _ _ _ h=>h) (Or.inl ⟨by rfl,?_⟩) (by assumption) ?_
          rotate_left
          · intro wz hSz
            go_simp
            all_goals with_reducible rfl
          go_simp
          refine wpAnyH_take (i:=16) (v:= ?_) rfl (by kernel_rfl) (by kernel_rfl) (by kernel_rfl) (fun _ _ _ h=>h) (Or.inl ⟨by rfl,?_⟩) (by assumption) ?_
          rotate_left
          · intro wz hSz
            go_simp
            all_goals with_reducible rfl
          go_simp
          refine wpAnyH_take (i:=19) (v:= ?_) rfl (by kernel_rfl) (by kernel_rfl) (by kernel_rfl) (fun _ _ _ h=>h) (Or.inl ⟨by rfl,?_⟩) (by assumption) ?_
          rotate_left
          · intro wz hSz
            go_simp
            all_goals with_reducible rfl
          go_simp
          refine wpAnyH_ready (rs:= [17]) (by kernel_rfl) (by simp) ?_
          refine AllReadyH.cons rfl (fun K hK=> ?_) AllReadyH.nil
          go_simp
          refine(encode_run v2.p PI2 _ r HRU.out bs HRO.out HBL.out v2.pv (HDZ.out.keepB (bnext HKB.out hHeld.bel))).mono ?_
          rintro e w5 ⟨y5,a5,c5,Ey5, -,rfl,h5,hb5⟩;have hbS5:=bnext hHeld.bel hb5;clear hHeld
          refine hK.out _ _ (⟨hbS5⟩) (fun hHeld=> ?_)
          clear hK K
          go_simp
          have hy5:=Ey5.out.trans HEL.out;subst hy5;have HX5:=Hd h5;have HKB5:=Hd (bnext HKB.out hHeld.bel)
          refine wpAnyH_more (S':=BelS w5) (fun wz hz=>BelS.next hHeld.bel hz) _ _ _ _ ?_
          replace hHeld:BelS w5 w5:=⟨Below.refl _ _⟩
          clear hb5 hbS5 h5 Ey5 HKB;have HKB:=HKB5;clear HKB5
          refine wpAnyH_take (i:=18) (v:= ?_) rfl (by kernel_rfl) (by kernel_rfl) (by kernel_rfl) (fun _ _ _ h=>h) (Or.inl ⟨by rfl,?_⟩) (by assumption) ?_
          rotate_left
          · intro wz hSz
            have s5:=conv_str (bytesR.keepB HX5.out hSz.bel)
            go_simp
            all_goals with_reducible rfl
          go_simp
          refine wpAnyH_ready (rs:= [20]) (by kernel_rfl) (by simp) ?_
          refine AllReadyH.cons rfl (fun K hK=> ?_) AllReadyH.nil
          go_simp
          refine(encode_run p I _ r HRU.out bs HRO.out HBL.out pv (HPZ.out.keepB (bnext HKB.out hHeld.bel))).mono ?_
          rintro e w6 ⟨y6,a6,c6,Ey6, -,rfl,h6,hb6⟩;have hbS6:=bnext hHeld.bel hb6;clear hHeld
          refine hK.out _ _ (⟨hbS6⟩) (fun hHeld=> ?_)
          clear hK K
          go_simp
          have hy6:=Ey6.out.trans HEL.out;subst hy6;have HX6:=Hd h6;have HKB6:=Hd (bnext HKB.out hHeld.bel)
          refine wpAnyH_more (S':=BelS w6) (fun wz hz=>BelS.next hHeld.bel hz) _ _ _ _ ?_
          replace hHeld:BelS w6 w6:=⟨Below.refl _ _⟩
          clear hb6 hbS6 h6 Ey6 HKB;have HKB:=HKB6;clear HKB6
          refine wpAnyH_take (i:=21) (v:= ?_) rfl (by kernel_rfl) (by kernel_rfl) (by kernel_rfl) (fun _ _ _ h=>h) (Or.inl ⟨by rfl,?_⟩) (by assumption) ?_
          rotate_left
          · intro wz hSz
            have s6:=conv_str (bytesR.keepB HX6.out hSz.bel)
            go_simp
            all_goals with_reducible rfl
          go_simp
          refine wpAnyH_take (i:=22) (v:= ?_) rfl (by kernel_rfl) (by kernel_rfl) (by kernel_rfl) (fun _ _ _ h=>h) (Or.inl ⟨by rfl,?_⟩) (by assumption) ?_
          rotate_left
          · intro wz hSz
            have z9:=str_self (strOfNums y6)
            go_simp
            all_goals with_reducible rfl
          go_simp
          refine wpAnyH_take (i:=23) (v:= ?_) rfl (by kernel_rfl) (by kernel_rfl) (by kernel_rfl) (fun _ _ _ h=>h) (Or.inl ⟨by rfl,?_⟩) (by assumption) ?_
          rotate_left
          · intro wz hSz
            go_simp
            all_goals with_reducible rfl
          go_simp
          refine wpAnyH_take (i:=24) (v:= ?_) rfl (by kernel_rfl) (by kernel_rfl) (by kernel_rfl) (fun _ _ _ h=>h) (Or.inl ⟨by rfl,?_⟩) (by assumption) ?_
          rotate_left
          · intro wz hSz
            go_simp
            all_goals with_reducible rfl
          go_simp
          refine wpAnyH_done (by kernel_rfl) ?_ _
          go_wp2_with fail;go_ret
          exact⟨rfl,bnext HB.out (bnext HBR.out HKB.out)⟩
end Go.Proofs.YtjknlhiimmbilaaGreatDoor
