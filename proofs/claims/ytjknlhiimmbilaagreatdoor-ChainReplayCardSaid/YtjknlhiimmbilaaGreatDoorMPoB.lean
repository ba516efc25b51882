/- The state of a chain of the program: the transactions of a block. -/
import Derived.Test.YtjknlhiimmbilaaGreatDoorPoC
import Derived.Test.YtjknlhiimmbilaaGreatDoorMPoA
import Derived.Test.YtjknlhiimmbilaaGreatDoorMKit
set_option maxRecDepth 100000
set_option maxHeartbeats 4000000
namespace Go.Proofs.YtjknlhiimmbilaaGreatDoor
open Go.ChangeShapes Go.WideShapes Go.ChangeAt Go.RowKit Go.Sort
theorem txsW_app: ∀(l m:List TxM) (s:PoM),txsW s (l++m)=txsW (txsW s l) m
 | [],_,_=>rfl
 |t::l,m,s=>txsW_app l m (perfW s t)
theorem txsE_app (r:RuM): ∀(l m:List TxM) (s:PoM),txsE r s l=0→txsE r s (l++m)=txsE r (txsW s l) m
 | [],_,_,_=>rfl
 |t::l,m,s,h=>by
  have h':(if poCheckE r s t=0 then (if perfE s t=0 then txsE r (perfW s t) l else perfE s t)else poCheckE r s t)=0:=h
  show(if poCheckE r s t=0 then (if perfE s t=0 then txsE r (perfW s t) (l++m)else perfE s t)else poCheckE r s t)=_
  split at h'
  · rename_i h1
    split at h'
    · rename_i h2
      rw [if_pos h1,if_pos h2]
      exact txsE_app r l m (perfW s t) h'
    · rename_i h2;exact absurd h' h2
  · rename_i h1;exact absurd h' h1
theorem feesL_app: ∀(l m:List TxM) (f:Int),feesL f (l++m)=feesL (feesL f l) m
 | [],_,_=>rfl
 |t::l,m,f=>feesL_app l m (wrapU (f+t.fee))
theorem marksL_snoc (l:List TxM)(t:TxM):marksL (l++ [t])=marksL l++t.marks:=by unfold marksL;rw [List.flatMap_append];simp
structure TxsK (r:RuM)(N:Nat)(s0:PoM)(l:List TxM)(s:PoM)(m:List Int):Prop where
 part:Part s0 s m
 ok:PoOK r s (N+4*l.length)
 err:txsE r s0 l=0
 st:s=txsW s0 l
 mks:m=marksL l
 len:m.length≤4*l.length
theorem TxsK.zero {r:RuM}{N:Nat}{s0:PoM}(h:PoOK r s0 N):TxsK r N s0 [] s0 []:=⟨Part.refl _,h,rfl,rfl,rfl,by simp⟩
theorem TxsK.next {r:RuM}{N:Nat}{s0 s:PoM}{l:List TxM}{m:List Int}(h:TxsK r N s0 l s m){t:TxM}(hc:poCheckE r s t=0)(he:perfE s t=0)(hpos: ∀o∈t.outs,0≤o.commit):TxsK r N s0 (l++ [t]) (perfW s t) (m++t.marks):=by
 refine⟨perf_part h.part hc,?_,?_,?_,?_,?_⟩
 · have:=perf_ok h.ok hc hpos
   rw [List.length_append,List.length_singleton,Nat.mul_add]
   exact this
 · rw [txsE_app r l [t] s0 h.err,←h.st]
   show(if poCheckE r s t=0 then (if perfE s t=0 then (0:Int)else perfE s t)else poCheckE r s t)=0
   rw [if_pos hc,if_pos he]
 · rw [txsW_app,←h.st];rfl
 · rw [marksL_snoc,←h.mks]
 · have h1:=(marksB_nodup (validE_parts (poCheck_facts hc).1).1).1
   have h2:=h.len
   rw [List.length_append,List.length_append,List.length_singleton];omega
theorem TxsK.check {r:RuM}{N:Nat}{s0 s:PoM}{l:List TxM}{m:List Int}(h:TxsK r N s0 l s m){t:TxM}(rest:List TxM)(hc:poCheckE r s t≠0):txsE r s0 (l++t::rest)=poCheckE r s t:=by
 rw [txsE_app r l (t::rest) s0 h.err,←h.st]
 exact if_neg hc
theorem TxsK.perf {r:RuM}{N:Nat}{s0 s:PoM}{l:List TxM}{m:List Int}(h:TxsK r N s0 l s m){t:TxM}(rest:List TxM)(hc:poCheckE r s t=0)(he:perfE s t≠0):txsE r s0 (l++t::rest)=perfE s t:=by
 rw [txsE_app r l (t::rest) s0 h.err,←h.st]
 exact(if_pos hc).trans (if_neg he)
theorem blockE_bad {r:RuM}{s0:PoM}{b:BlkM}(h:txsE r s0 b.txs≠0):blockE r s0 b=txsE r s0 b.txs:=if_neg h
def BlkOut (p q:Nat)(I:Nat→Prop)(v:PoV)(na:Option Addr)(w:World)(r:RuM)(N:Nat)(s0:PoM)(b:BlkM)(ta ba:Option Addr)(tc bc:Nat)(w':World):Prop:=
 ∃(s':PoM) (m':List Int),Part s0 s' m'∧PoOK r s' (N+400)∧m'.length≤300∧(blockE r s0 b=0→s'=blockW r s0 b∧m'=marksL b.txs)∧PoOut p q I v na w r s0 s' m' ta ba tc bc w'
theorem PoOK.more {r:RuM}{s:PoM}{n n':Nat}(h:PoOK r s n)(hn:n≤n'):PoOK r s n':=⟨h.tree,h.count,h.leaves,Nat.le_trans h.marks hn,h.up,Nat.le_trans h.book hn,h.hidden,h.roots⟩
theorem outs_pos {S:Nat→Prop}{w:World}{t:TxM}{ma oa pa:Option Addr}{mc oc pc:Nat}(h:TxIn S w t ma oa pa mc oc pc): ∀o∈t.outs,0≤o.commit:=by
 intro o ho
 obtain⟨j,hj,rfl⟩:=List.getElem_of_mem ho;obtain⟨_,_,_,_,_,_,_,okj,_⟩:=outs_at h.outs j hj
 exact(okU_in okj).1
theorem poBlock_any (p q:Nat)(I:Nat→Prop)(w:World)(r:RuM)(hr:RuOK r)(s0:PoM)(v:PoV)(ta na ba:Option Addr)(tc nc bc:Nat)(h:PoW p q I w r s0 s0 [] v ta na ba tc nc bc)(N:Nat)(ok:PoOK r s0 N)(hN:N≤80000)(hpl:s0.past.length≤100000)(S:Nat→Prop)(b:BlkM)(xa:Option Addr)(xc:Nat)(hb:BlkIn S w b xa xc)(hbl:b.txs.length≤64)(hS: ∀k,S k→ ¬PoMut p v k∧k≠q∧blkO na≠some k):
   Calls Tryz.prog 50 #[.pointer (some ⟨p,0,none⟩),.agg #[.int .u64 b.parent,.int .i64 b.height,.int .u64 b.miner,.int .u64 b.work,.int .u64 b.nonce,.slice xa b.txs.length xc],.pointer (some ⟨q,0,none⟩)] w fun e w'=>e= .returned (.int .i64 (blockE r s0 b))∧BlkOut p q I v na w r N s0 b ta ba tc bc w':=by
 have hbA:=bnew (Below.refl w.heap.size w) (.cells #[.int .u64 b.parent,.int .i64 b.height,.int .u64 b.miner,.int .u64 b.work,.int .u64 b.nonce,.slice xa b.txs.length xc] 48);have HX:=Hd (box_new w (.cells #[.int .u64 b.parent,.int .i64 b.height,.int .u64 b.miner,.int .u64 b.work,.int .u64 b.nonce,.slice xa b.txs.length xc] 48));have HW:=Hd (h.keepB hbA)
 have HT:Hid (txsR.rel (fun k=>S k∧k<w.heap.size) (w.alloc (.cells #[.int .u64 b.parent,.int .i64 b.height,.int .u64 b.miner,.int .u64 b.work,.int .u64 b.nonce,.slice xa b.txs.length xc] 48)) [.slice xa b.txs.length xc] b.txs):=txsR.keepB (txsR.bound hb.txs) hbA
 have HS0:Hid (PoStep p q I v na w I v na (w.alloc (.cells #[.int .u64 b.parent,.int .i64 b.height,.int .u64 b.miner,.int .u64 b.work,.int .u64 b.nonce,.slice xa b.txs.length xc] 48))):=PoStep.below hbA;have HZ:Hid ((w.alloc (.cells #[.int .u64 b.parent,.int .i64 b.height,.int .u64 b.miner,.int .u64 b.work,.int .u64 b.nonce,.slice xa b.txs.length xc] 48)).heap.size=w.heap.size+1):=World.size_alloc ..
 have HBX:Hid (¬PoMut p v w.heap.size∧w.heap.size≠q∧blkO na≠some w.heap.size):=by
   refine⟨fun hm=> ?_,fun e=> ?_,fun e=> ?_⟩
   · have:=h.at'.mut_lt _ hm;omega
   · have:=box_lt h.bef;omega
   · obtain⟨cur,hc⟩:=own_obj h.own e;have:=box_lt hc;omega
 have HOK:=Hd ok;have HR:=Hd hr
 have HS:Hid (∀k,(S k∧k<w.heap.size)→ ¬PoMut p v k∧k≠q∧blkO na≠some k):=fun k hk=>hS k hk.1
 have HMI:=Hd hb.miner;clear hbA h hb ok hS hr
 go_enter Tryz.func50,Tryz.ntmps50
 go_upto_region 1 with(fail)
 generalize w.alloc (.cells #[.int .u64 b.parent,.int .i64 b.height,.int .u64 b.miner,.int .u64 b.work,.int .u64 b.nonce,.slice xa b.txs.length xc] 48)=W at*;obtain⟨x0,x1⟩:=box_cells HX.out;go_wp2_with fail
 go_loopw [7,17] (fun vf vi wr=> ∃(k:Nat) (s:PoM) (m:List Int) (I':Nat→Prop) (v':PoV) (a5:Option Addr) (c5:Nat),k≤b.txs.length∧vi= .int .i64 k∧vf= .int .u64 (feesL 0 (b.txs.take k))∧Hid (TxsK r N s0 (b.txs.take k) s m)∧Hid (PoW p q I' wr r s0 s m v' ta a5 ba tc c5 bc)∧Hid (PoStep p q I v na W I' v' a5 wr)) (fun _ vi _=>b.txs.length-(intOf vi).toNat)
 case atStart=>exact⟨0,s0,[],I,v,na,nc,Nat.zero_le _,rfl,rfl,TxsK.zero HOK.out,HW,PoStep.refl _ _ _ _ _ _⟩
 case round=>
   obtain⟨k,s,m,I',v',a5,c5,hk,rfl,rfl,HKK,HP,HSr⟩:=hrel
   have HSS:Hid (∀k,(S k∧k<w.heap.size)→ ¬PoMut p v' k∧k≠q∧blkO a5≠some k):=fun k hk=>by
     refine⟨fun hm=> ?_,(HS.out k hk).2.1,fun e=> ?_⟩
     · rcases HSr.out.turn k hm with h1|h1
       · exact(HS.out k hk).1 h1
       · have:=HZ.out;omega
     · rcases HSr.out.mm k e with h1|h1
       · exact(HS.out k hk).2.2 h1
       · have:=HZ.out;omega
   have hkl:(b.txs.take k).length=k:=by rw [List.length_take];omega
   by_cases hlt:k<b.txs.length
   · have HTr:=Hd (txsR.keep HT.out (HSr.out.kept.mono fun k _ hk=>HS.out k hk))
     obtain⟨bb,off,ma,oa,pa,mc,oc,pc,hxa,hbbl,ht,c0,c1,c2,c3,c4,c5',c6,c7,c8,c9⟩:=txs_at HTr.out k hlt;subst hxa
     have hsp:b.txs=b.txs.take k++b.txs[k]::b.txs.drop (k+1):=by
       have h1:=List.take_append_drop k b.txs;rw [List.drop_eq_getElem_cons hlt]at h1
       exact h1.symm
     have hsn:b.txs.take (k+1)=b.txs.take k++ [b.txs[k]]:=List.take_succ_eq_append_getElem hlt;generalize b.txs[k]=t at*;have HSP:=Hd hsp;have HSN:=Hd hsn
     have hft:feesL 0 (b.txs.take (k+1))=wrapU (feesL 0 (b.txs.take k)+t.fee):=by rw [hsn,feesL_app];rfl
     have HFT:=Hd hft
     have HKL:Hid (N+4*(b.txs.take k).length≤80300∧m.length≤300):=by
       show _∧_
       have h1:=HKK.out.len;rw [hkl]at h1⊢
       exact⟨by omega,by omega⟩
     have HPL:Hid (s.past.length≤100000):=by show _≤_;rw [HKK.out.part.past];exact hpl
     have HT1:=Hd ht;have hpos:=outs_pos ht;have HPOS:=Hd hpos;obtain⟨fs,hfs⟩: ∃f,feesL 0 (b.txs.take k)=f:=⟨_,rfl⟩;rw [hfs]at HFT;generalize hlk:b.txs.take k=lk at*;clear hft hsp hsn ht hpos hlk;rw [hfs];clear hfs
     go_upto_region 5 with(fail)
     have hbO:=bnew (Below.refl wr.heap.size wr) (.cells #[.int .u64 t.anchor,.slice ma t.marks.length mc,.slice oa t.outs.length oc,.int .u64 t.dep,.int .u64 t.wd,.int .u64 t.fee,.int .u64 t.acc,.int .u64 t.nonce,.int .i64 t.exp,.slice pa t.proof.length pc] 111);have HOB:=Hd (box_new wr (.cells #[.int .u64 t.anchor,.slice ma t.marks.length mc,.slice oa t.outs.length oc,.int .u64 t.dep,.int .u64 t.wd,.int .u64 t.fee,.int .u64 t.acc,.int .u64 t.nonce,.int .i64 t.exp,.slice pa t.proof.length pc] 111));have HP1:=Hd (HP.out.keepB hbO);have HS1:=Hd (HSr.out.trans (PoStep.below hbO));have HTA:=Hd (HT1.out.keepB hbO)
     have HB1:Hid (¬PoMut p v' wr.heap.size∧wr.heap.size≠q∧blkO a5≠some wr.heap.size):=by
       refine⟨fun hm=> ?_,fun e=> ?_,fun e=> ?_⟩
       · have:=HP.out.at'.mut_lt _ hm;omega
       · have:=box_lt HP.out.bef;omega
       · obtain⟨cur,hc⟩:=own_obj HP.out.own e;have:=box_lt hc;omega
     clear hbO HP HSr HT1 x0 x1 c0 c1 c2 c3 c4 c5' c6 c7 c8 c9 HTr hbbl;generalize wr.heap.size=B1 at*;generalize wr.alloc (.cells #[.int .u64 t.anchor,.slice ma t.marks.length mc,.slice oa t.outs.length oc,.int .u64 t.dep,.int .u64 t.wd,.int .u64 t.fee,.int .u64 t.acc,.int .u64 t.nonce,.int .i64 t.exp,.slice pa t.proof.length pc] 111)=w1 at*;obtain⟨x0,x1⟩:=box_cells HOB.out;go_wp2_with fail
     refine(poCheck_any p I' w1 r s v' HP1.out.at' HR.out _ HKK.out.ok (by have:=HKL.out.1;omega) HPL.out _ t ma oa pa mc oc pc HTA.out).mono ?_
     rintro e w2 ⟨rfl,hb2⟩;have HP2:=Hd (HP1.out.keepB hb2);have HS2:=Hd (HS1.out.trans (PoStep.below hb2));have HT2:=Hd (HTA.out.keepB hb2);have HO2:=Hd (box_after hb2 HOB.out);clear hb2 x0 x1 HP1 HS1 HTA HOB
     by_cases hc:poCheckE r s t=0
     · rw [hc]
       have HC:=Hd hc;clear hc;obtain⟨x0,x1⟩:=box_cells HO2.out;go_wp2_with fail
       refine(perform_any p q I' w2 r s0 s m v' ta a5 ba tc c5 bc HP2.out _ HKK.out.ok (by have:=HKL.out.1;omega) (by have:=HKL.out.2;omega) _ t ma oa pa mc oc pc HT2.out HSS.out HC.out).mono ?_
       rintro e w3 ⟨rfl,I3,v3,a3,c3,hw3,hs3⟩;have HP3:=Hd hw3;have HS3:=Hd (HS2.out.trans hs3);have HO3:=Hd (box_kept hs3.kept HO2.out HB1.out);clear hw3 hs3 x0 x1
       by_cases he:perfE s t=0
       · rw [he]
         have HNX:=Hd (HKK.out.next HC.out he HPOS.out);clear he;obtain⟨x0,x1⟩:=box_cells HO3.out;go_wp2_with fail
         go_roundw
         case rel=>exact⟨k+1,perfW s t,m++t.marks,I3,v3,a3,c3,by omega,by go_num,by rw [HFT.out],by rw [HSN.out];exact HNX,HP3,HS3⟩
         case measure=>simp [intOf];omega
       · have HBE:Hid (txsE r s0 b.txs=perfE s t):=by show _=_;rw [HSP.out];exact HKK.out.perf _ HC.out he
         have HBN:Hid (blockE r s0 b=perfE s t):=by show _=_;rw [blockE_bad (by rw [HBE.out];exact he),HBE.out]
         have HNE:=Hd he
         have z1:(perfE s t==0)=false:=by rw [beq_eq_false_iff_ne];exact he
         have z2:(perfE s t != 0)=true:=by rw [bne_iff_ne];exact he
         obtain⟨y,hy⟩: ∃y,perfE s t=y:=⟨_,rfl⟩;have HY:=Hd hy;rw [hy]at z1 z2⊢;clear hy he;go_wp2_with fail;go_ret
         exact⟨ret_int (by rw [HBN.out,HY.out]),perfW s t,m++t.marks,perf_part HKK.out.part HC.out,(perf_ok HKK.out.ok HC.out HPOS.out).more (by have:=hkl;omega),by have h1:=(marksB_nodup (validE_parts (poCheck_facts HC.out).1).1).1;have h2:=HKK.out.len;rw [List.length_append];omega,fun h=>absurd (HBN.out.symm.trans h) HNE.out,I3,v3,a3,c3,HP3.out,HS0.out.trans HS3.out⟩
     · have HBE:Hid (txsE r s0 b.txs=poCheckE r s t):=by show _=_;rw [HSP.out];exact HKK.out.check _ hc
       have HBN:Hid (blockE r s0 b=poCheckE r s t):=by show _=_;rw [blockE_bad (by rw [HBE.out];exact hc),HBE.out]
       have HNE:=Hd hc
       have z1:(poCheckE r s t==0)=false:=by rw [beq_eq_false_iff_ne];exact hc
       have z2:(poCheckE r s t != 0)=true:=by rw [bne_iff_ne];exact hc
       obtain⟨y,hy⟩: ∃y,poCheckE r s t=y:=⟨_,rfl⟩;have HY:=Hd hy;rw [hy]at z1 z2⊢;clear hy hc;go_wp2_with fail;go_ret
       exact⟨ret_int (by rw [HBN.out,HY.out]),s,m,HKK.out.part,HKK.out.ok.more (by omega),by have:=HKL.out.2;omega,fun h=>absurd (HBN.out.symm.trans h) HNE.out,I',v',a5,c5,HP2.out,HS0.out.trans HS2.out⟩
   · obtain rfl:k=b.txs.length:=by omega
     rw [List.take_length]at HKK⊢;have HXr:=Hd (box_kept HSr.out.kept HX.out HBX.out);obtain⟨x0,x1⟩:=box_cells HXr.out
     have HBE:Hid (blockE r s0 b=creditE s.book b.miner (wrapU (r.rew+feesL 0 b.txs))):=by show _=_;unfold blockE;rw [if_pos HKK.out.err,←HKK.out.st]
     have HBW:Hid (blockW r s0 b=⟨s.tree,s.leaves,s.marks,creditL s.book b.miner (wrapU (r.rew+feesL 0 b.txs)),s.hidden,s.roots,s.past⟩):=by show blockW r s0 b=_;unfold blockW;rw [←HKK.out.st]
     have HOF:Hid (okU (wrapU (r.rew+feesL 0 b.txs))):=wrapU_ok _;generalize feesL 0 b.txs=fs at*
     have HBL:Hid (s.book.length≤100000):=by show _≤_;have h1:=HKK.out.ok.book;omega
     obtain⟨bk,hbk⟩: ∃x,creditL s.book b.miner (IntKind.u64.wrap (r.rew+fs))=x:=⟨_,rfl⟩;obtain⟨er,her⟩: ∃x,creditE s.book b.miner (IntKind.u64.wrap (r.rew+fs))=x:=⟨_,rfl⟩;have HBE2:Hid (blockE r s0 b=er):=HBE.out.trans her
     have HBW2:Hid (blockW r s0 b=⟨s.tree,s.leaves,s.marks,bk,s.hidden,s.roots,s.past⟩):=by show _=_;rw [HBW.out,←hbk]
     have HBK:=Hd hbk;have HER:=Hd her;clear HBE HBW hbk her
     go_upto_region 13 with(fail)
     go_cut [12,13]from 14 (fun v12 v13 wc=> ∃b a c,v12= .pointer (some ⟨b,0,none⟩)∧v13= .int .i64 er∧Hid (wc.heap[b]? =some (.cells #[.slice a bk.length c] 100 (0,0)))∧Hid (accsR.rel (fun k=>wr.heap.size≤k) wc [.slice a bk.length c] bk)∧Hid (Below wr.heap.size wr wc))
     case first=>
       go_region_held3 (fun w'=>Below wr.heap.size wr w'∧(∀o,w'.cell? ⟨p,o,none⟩=(poCells r s v')[o]?)∧(∀o,w'.cell? ⟨w.heap.size,o,none⟩=(#[.int .u64 b.parent,.int .i64 b.height,.int .u64 b.miner,.int .u64 b.work,.int .u64 b.nonce,.slice xa b.txs.length xc]:Array Value)[o]?))
         (first
           |with_reducible exact BkK2.drew (BkK2.of HP.out.at'.cell HXr.out (Below.refl _ _))
           |with_reducible exact HK1.out
           |with_reducible exact BkK2.of HP.out.at'.cell HXr.out (bnew HK1.out.1 _)
           |exact BkK2.of HP.out.at'.cell HXr.out (below_put HK1.out.1 (Nat.le_refl _) _ HK1.out.1.size)
           |with_reducible exact BkK2.drew (BkK2.of HP.out.at'.cell HXr.out (bnew (Below.refl _ _) _)))
         (first
           |(go_at_call 81;have HBp:=Hd (‹Below wr.heap.size wr _∧_› :BkK2 (poCells r s v') #[.int .u64 b.parent,.int .i64 b.height,.int .u64 b.miner,.int .u64 b.work,.int .u64 b.nonce,.slice xa b.txs.length xc] p w.heap.size wr _)
             refine(credit_any I' _ v'.ba v'.bc s.book (HP.out.keepB HBp.out.1).at'.data.book HBL.out HKK.out.ok.up b.miner (IntKind.u64.wrap (r.rew+fs)) HMI.out HOF.out).mono ?_
             rw [HBK.out,HER.out];rintro e w5 ⟨a7,c7,rfl,hr5,hb5⟩;have HK1:=Hd (BkK2.of HP.out.at'.cell HXr.out (bnext HBp.out.1 hb5));have HR5:=Hd hr5;clear hr5
             first
               |(have hqA:w5.heap[wr.heap.size]? =_:=box_after hb5 (box_new wr (.cells #[.slice none 0 0] 100));obtain⟨k0,k1⟩:=box_cells hqA;have HQ:=Hd hqA;clear hqA)
               |skip))
       · have HBF:=Hd (box_new w5 (.cells #[.slice a7 bk.length c7] 100))
         have HRF:=Hd ((accsR).mono ((accsR).keepB HR5.out (bnew (Below.refl _ _) (.cells #[.slice a7 bk.length c7] 100))) (S':=fun k=>wr.heap.size≤k) fun k _ h=>h)
         have HBel:=Hd (bnew HK1.out.1 (.cells #[.slice a7 bk.length c7] 100));go_wp2_with fail
         go_meet
         case rel=>exact⟨w5.heap.size,a7,c7,rfl,rfl,HBF,HRF,HBel⟩
       · have HBF:Hid ((w5.setCell ⟨wr.heap.size,0,none⟩ (.slice a7 bk.length c7)).heap[wr.heap.size]? =some (.cells #[.slice a7 bk.length c7] 100 (0,0))):=box_set HQ.out
         have HRF:=Hd ((accsR).mono ((accsR).keep HR5.out ((kept_one w5 wr.heap.size 0 (.slice a7 bk.length c7)).mono fun k _ h=>by have h':(wr.alloc (.cells #[.slice none 0 0] 100)).heap.size≤k:=h;rw [World.size_alloc]at h';show k≠_;omega)) (S':=fun k=>wr.heap.size≤k) fun k _ h=>by have h':(wr.alloc (.cells #[.slice none 0 0] 100)).heap.size≤k:=h;rw [World.size_alloc]at h';show _≤k;omega)
         have HBel:=Hd (below_put (i:=0) HK1.out.1 (q:=wr.heap.size) (Nat.le_refl _) (.slice a7 bk.length c7) HK1.out.1.size);go_wp2_with fail
         go_meet
         case rel=>exact⟨wr.heap.size,a7,c7,rfl,rfl,HBF,HRF,HBel⟩
     case rest=>
       obtain⟨b8,a8,c8,rfl,rfl,HB8,HR8,HBe⟩:=hcut;have HPc:=Hd (HP.out.keepB HBe.out);have hg9:=HPc.out.at'.grow (B:=wr.heap.size) HP.out.at'.mut_lt
       have hr9:=(accsR).mono HR8.out (S':=fun k=>I' k∨(wr.heap.size≤k∧k<wc.heap.size)) fun k hk h=> .inr ⟨h,hk⟩
       have hat9:=hg9.setBook hr9
       have hk9:Kept (fun k=> ¬PoMut p v' k) wr (wc.setCell ⟨p,14,none⟩ (.slice a8 bk.length c8)):=
         (Kept.of_below HBe.out).trans (kept_one wc p 14 _) fun k _ h e=>h (.inl e)
       obtain⟨hw9,hs9⟩:=HP.out.step hat9 hk9 (fun _ h=> .inl h) (fun _ h=> .inl h) (fun k h=>h.elim .inl fun h=> .inr h.1)
       have HP9:=Hd hw9;have HS9:=Hd (HSr.out.trans hs9);obtain⟨k0,k1⟩:=box_cells HB8.out;obtain⟨y0,y1⟩:=box_cells HPc.out.at'.cell
       simp only [poCells]at y0
       clear hg9 hr9 hat9 hk9 hw9 hs9
       by_cases hz:er=0
       · subst hz
         have HPO:Hid (PoOK r (blockW r s0 b) (N+400)):=by
           show PoOK _ _ _
           rw [HBW2.out,←HBK.out]
           exact⟨HKK.out.ok.tree,HKK.out.ok.count,HKK.out.ok.leaves,by have h1:=HKK.out.ok.marks;show s.marks.length≤_;omega,creditL_up HKK.out.ok.up _ _,by have h1:=HKK.out.ok.book;have h2:=creditL_len s.book b.miner (IntKind.u64.wrap (r.rew+fs));show(creditL _ _ _).length≤_;omega,HKK.out.ok.hidden,HKK.out.ok.roots⟩
         have HPP:Hid (Part s0 (blockW r s0 b) m):=by
           show Part _ _ _
           rw [HBW2.out]
           exact⟨HKK.out.part.leaves,HKK.out.part.marks,HKK.out.part.nodup,HKK.out.part.fresh,HKK.out.part.roots,HKK.out.part.past⟩
         go_wp2_with fail;go_ret;rw [HBE2.out]
         exact⟨rfl,blockW r s0 b,m,HPP.out,HPO.out,by have h2:=HKK.out.len;omega,fun _=>⟨rfl,HKK.out.mks⟩,_,_,a5,c5,by rw [HBW2.out];exact HP9.out,HS0.out.trans HS9.out⟩
       · have z1:(er==0)=false:=by rw [beq_eq_false_iff_ne];exact hz
         have z2:(er != 0)=true:=by rw [bne_iff_ne];exact hz
         have HNE:=Hd hz;have HSF:=Hd (HS0.out.trans (HSr.out.trans (PoStep.below (p:=p) (q:=q) (I:=I') (v:=v') (ma:=a5) HBe.out)));clear hz;go_wp2_with fail;go_ret
         exact⟨ret_int HBE2.out.symm,s,m,HKK.out.part,HKK.out.ok.more (by omega),by have h2:=HKK.out.len;omega,fun h=>absurd (HBE2.out.symm.trans h) HNE.out,I',v',a5,c5,HPc.out,HSF.out⟩
end Go.Proofs.YtjknlhiimmbilaaGreatDoor
/- The state of a chain of the program: restore. -/
set_option maxRecDepth 100000
set_option maxHeartbeats 4000000
namespace Go.Proofs.YtjknlhiimmbilaaGreatDoor
open Go.ChangeShapes Go.WideShapes Go.ChangeAt Go.RowKit Go.Sort
theorem restore_any (p:Nat)(I:Nat→Prop)(w:World)(r:RuM)(s:PoM)(v:PoV)(h:PoAt p I w r s v)(b:BefM)(ln:Nat)(hln:b.leaves=ln)(hll:ln≤s.leaves.length)(hs1:s.leaves.length≤1000000)(hs2:s.marks.length≤1000000000)(hs3:b.marks.length≤1000000)(ta na ba:Option Addr)(tc nc bc:Nat)(htr:numsR.rel I w [.slice ta b.tree.left.length tc] b.tree.left)(hbk:accsR.rel I w [.slice ba b.book.length bc] b.book)(S:Nat→Prop)(hmk:numsR.rel S w [.slice na b.marks.length nc] b.marks)(hS: ∀k,S k→ ¬PoMut p v k)(hhd:okU b.hidden):
   Calls Tryz.prog 51 #[.pointer (some ⟨p,0,none⟩),.agg #[.int .i64 b.tree.depth,.int .i64 b.tree.count,.slice ta b.tree.left.length tc,.int .i64 (ln:Nat),.slice na b.marks.length nc,.slice ba b.book.length bc,.int .u64 b.hidden]] w fun e w'=>e= .returned (.tuple #[])∧PoAt p I w' r (restW s b) { v with ta:=ta,tc:=tc,ba:=ba,bc:=bc }∧Kept (fun k=> ¬PoMut p v k) w w':=by
 have hbA:=bnew (Below.refl w.heap.size w) (.cells #[.int .i64 b.tree.depth,.int .i64 b.tree.count,.slice ta b.tree.left.length tc,.int .i64 (ln:Nat),.slice na b.marks.length nc,.slice ba b.book.length bc,.int .u64 b.hidden] 117);have HX:=Hd (box_new w (.cells #[.int .i64 b.tree.depth,.int .i64 b.tree.count,.slice ta b.tree.left.length tc,.int .i64 (ln:Nat),.slice na b.marks.length nc,.slice ba b.book.length bc,.int .u64 b.hidden] 117));have HP:=Hd (h.keepB hbA);have HTR:=Hd (numsR.keepB htr hbA);have HBK:=Hd ((accsR).keepB hbk hbA);have HMK:=Hd (numsR.keepB hmk hbA)
 have HK0:Hid (Kept (fun k=> ¬PoMut p v k) w (w.alloc (.cells #[.int .i64 b.tree.depth,.int .i64 b.tree.count,.slice ta b.tree.left.length tc,.int .i64 (ln:Nat),.slice na b.marks.length nc,.slice ba b.book.length bc,.int .u64 b.hidden] 117))):=Kept.of_below hbA
 have HBX:Hid (¬PoMut p v w.heap.size):=fun hm=>by have:=h.mut_lt _ hm;omega
 have HSS:=Hd hS;have HHD:=Hd hhd
 have HRW:Hid (restW s b=⟨b.tree,s.leaves.take ln,remW s.marks b.marks,b.book,b.hidden,s.roots,s.past⟩):=by show PoM.mk _ _ _ _ _ _ _=_;rw [hln,Int.toNat_natCast]
 clear hbA h htr hbk hmk hS hhd hln
 go_enter Tryz.func51,Tryz.ntmps51
 go_upto_region 1 with(fail)
 generalize w.alloc (.cells #[.int .i64 b.tree.depth,.int .i64 b.tree.count,.slice ta b.tree.left.length tc,.int .i64 (ln:Nat),.slice na b.marks.length nc,.slice ba b.book.length bc,.int .u64 b.hidden] 117)=W at*;have x0:=box_regrown HX.out;have y0:=box_regrown HP.out.cell
 simp only [poCells]at y0
 refine wp_region_quiet_tail 6 (by kernel_rfl) (by kernel_rfl) ?_
 simp only [List.take_succ_cons,List.take_zero,List.drop_succ_cons,List.drop_zero]
 repeat (first|go_big_quiet_step (fail)|quiet_step (fail))
 refine wpQuiet_nil ?_
 intro wq hw'
 obtain⟨⟨dq,osq⟩,hw''⟩:=hw';have hbwq:=below_regrown W dq osq;rw [←hw'']at hbwq;clear hw'' x0 y0;have HP1:=Hd (HP.out.keepB hbwq);have HM1:=Hd (numsR.keepB HMK.out hbwq)
 have HK1:Hid (Kept (fun k=> ¬PoMut p v k) W wq):=Kept.of_below hbwq
 clear hbwq;go_wp2_with fail
 refine(remove_any v.sb v.mb S wq s.marks HP1.out.data.marks na nc b.marks HM1.out hs3 hs2 (fun hh=>HSS.out _ hh (.inr (.inr (.inl rfl))))).mono ?_
 rintro e w2 ⟨rfl,hm2,hk2⟩;have HP2:=Hd (HP1.out.marksTo hm2 hk2)
 have HK2:Hid (Kept (fun k=> ¬PoMut p v k) W w2):=HK1.out.trans (hk2.mono (S':=fun k=> ¬PoMut p v k) fun k _ hm e=>hm (.inr (.inr (.inl e)))) fun _ _ h=>h
 obtain⟨mk,hmk⟩: ∃x,remW s.marks b.marks=x:=⟨_,rfl⟩;rw [hmk]at HP2 HRW;clear hm2 hk2 hmk HP1 HM1 HK1;have HX2:=Hd (box_kept HK2.out HX.out HBX.out);obtain⟨x0,x1⟩:=box_cells HX2.out;obtain⟨y0,y1⟩:=box_cells HP2.out.cell
 simp only [poCells]at y0
 go_upto_region 3 with(fail)
 have hfr: ∀k,I k→ ¬PoMut p v k:=fun k hi hm=>HP.out.free k hm hi
 have hat3:=HP2.out.setTree (numsR.keep HTR.out (HK2.out.mono fun k _=>hfr k))
 have hk3:Kept (fun k=> ¬PoMut p v k) W (w2.setCells p 9 [.int .i64 b.tree.depth,.int .i64 b.tree.count,.slice ta b.tree.left.length tc]):=HK2.out.trans (kept_cells w2 (q:=p) (S:=fun k=> ¬PoMut p v k) (fun h=>h (.inl rfl)) _ 9) fun _ _ h=>h
 obtain⟨w3,hwf⟩: ∃wf,wf=w2.setCells p 9 [.int .i64 b.tree.depth,.int .i64 b.tree.count,.slice ta b.tree.left.length tc]:=⟨_,rfl⟩;rw [←hwf]at hat3 hk3
 simp only [World.setCells,Nat.reduceAdd]at hwf
 rw [←hwf];have HP3:=Hd hat3;have HK3:=Hd hk3;clear hwf hat3 hk3 x0 x1 y0 y1 HP2 HX2;have HX3:=Hd (box_kept HK3.out HX.out HBX.out);have x0:=box_regrown HX3.out;have y0:=box_regrown HP3.out.cell
 simp only [poCells]at y0
 have hcap:s.leaves.length≤v.lc:=(sliceR.lens HP3.out.data.leaves.slice).2.1;have hnil:=(sliceR.lens HP3.out.data.leaves.slice).2.2.2
 have j0:(0:Int)≤(ln:Int):=by omega
 have j1:(ln:Int)≤(s.leaves.length:Int):=by omega
 have j2:ln≤v.lc:=by have h':s.leaves.length≤v.lc:=hcap;omega
 go_cut [4]from 5 (fun v4 wc=>Hid (PoAt p I wc r ⟨b.tree,s.leaves.take ln,mk,s.book,s.hidden,s.roots,s.past⟩ { v with ta:=ta,tc:=tc })∧Hid (Kept (fun k=> ¬PoMut p v k) W wc))
 case first=>
   cases hla:v.la with
   |none=>
    have hc0:v.lc=0:=hnil hla
    have hl0:s.leaves.length=0:=by omega
    have hn0:ln=0:=by omega
    subst hn0;rw [hla,hc0,hl0]at y0
    refine wp_region_quiet_tail 8 (by kernel_rfl) (by kernel_rfl) ?_
    simp only [List.take_succ_cons,List.take_zero,List.drop_succ_cons,List.drop_zero]
    repeat (first|go_big_quiet_step (fail)|quiet_step (fail))
    refine wpQuiet_nil ?_
    intro w4 hw'
    obtain⟨⟨dq,osq⟩,hw''⟩:=hw';have hbw4:=below_regrown w3 dq osq;rw [←hw'']at hbw4;clear hw'' x0 y0;have HP4:=Hd (HP3.out.keepB hbw4)
    have HK4:Hid (Kept (fun k=> ¬PoMut p v k) W w4):=HK3.out.trans (Kept.of_below (S:=fun k=> ¬PoMut p v k) hbw4) fun _ _ h=>h
    have HY:=Hd HP4.out.cell;obtain⟨y0,y1⟩:=box_cells HY.out;have HP5:=Hd (HP4.out.cutLeaves 0 hll)
    have HK5:Hid (Kept (fun k=> ¬PoMut p v k) W (w4.setCell ⟨p,12,none⟩ (.slice v.la 0 v.lc))):=HK4.out.trans (kept_one w4 p 12 _) fun k _ h e=>h (.inl e)
    have HEQ:Hid (Value.slice v.la 0 v.lc= .slice none 0 0):=by show _=_;rw [hla,hc0]
    clear hl0 hc0 hla hnil hcap j1 j2 hll;go_wp2_with fail
    go_meet
    case rel=>rw [←HEQ.out];exact⟨HP5,HK5⟩
   |some ad=>
    rw [hla]at y0
    refine wp_region_quiet_tail 8 (by kernel_rfl) (by kernel_rfl) ?_
    simp only [List.take_succ_cons,List.take_zero,List.drop_succ_cons,List.drop_zero]
    repeat (first|go_big_quiet_step (fail)|quiet_step (fail))
    refine wpQuiet_nil ?_
    intro w4 hw'
    obtain⟨⟨dq,osq⟩,hw''⟩:=hw';have hbw4:=below_regrown w3 dq osq;rw [←hw'']at hbw4;clear hw'' x0 y0;have HP4:=Hd (HP3.out.keepB hbw4)
    have HK4:Hid (Kept (fun k=> ¬PoMut p v k) W w4):=HK3.out.trans (Kept.of_below (S:=fun k=> ¬PoMut p v k) hbw4) fun _ _ h=>h
    obtain⟨y0,y1⟩:=box_cells HP4.out.cell;have HP5:=Hd (HP4.out.cutLeaves ln hll)
    have HK5:Hid (Kept (fun k=> ¬PoMut p v k) W (w4.setCell ⟨p,12,none⟩ (.slice v.la ln v.lc))):=HK4.out.trans (kept_one w4 p 12 _) fun k _ h e=>h (.inl e)
    go_wp2_with fail
    go_meet
    case rel=>rw [←hla];exact⟨HP5,HK5⟩
 case rest=>
   obtain⟨HP6,HK6⟩:=hcut;clear x0 y0 HX3 HP3 HK3 hcap hnil j0 j1 j2;have HX6:=Hd (box_kept HK6.out HX.out HBX.out);obtain⟨x0,x1⟩:=box_cells HX6.out;obtain⟨y0,y1⟩:=box_cells HP6.out.cell
   simp only [poCells]at y0
   go_upto_region 5 with(fail)
   have hat7:=HP6.out.setBook ((accsR).keep HBK.out (HK6.out.mono fun k _=>hfr k))
   have hk7:Kept (fun k=> ¬PoMut p v k) W (wc.setCell ⟨p,14,none⟩ (.slice ba b.book.length bc)):=HK6.out.trans (kept_one wc p 14 _) fun k _ h e=>h (.inl e)
   generalize wc.setCell ⟨p,14,none⟩ (.slice ba b.book.length bc)=w7 at*;have HP7:=Hd hat7;have HK7:=Hd hk7;clear hat7 hk7 x0 x1 y0 y1;have HX7:=Hd (box_kept HK7.out HX.out HBX.out);obtain⟨x0,x1⟩:=box_cells HX7.out;obtain⟨y0,y1⟩:=box_cells HP7.out.cell
   simp only [poCells]at y0
   have HP8:=Hd (HP7.out.setHidden b.hidden HHD.out)
   have HK8:Hid (Kept (fun k=> ¬PoMut p v k) w (w7.setCell ⟨p,15,none⟩ (.int .u64 b.hidden))):=(HK0.out.trans HK7.out fun k _ h=>h).trans (kept_one w7 p 15 _) fun k _ h e=>h (.inl e)
   go_wp2_with fail
   go_end0
   exact⟨rfl,by rw [HRW.out];exact HP8.out,HK8.out⟩
end Go.Proofs.YtjknlhiimmbilaaGreatDoor
/- A row whose cells are known, element by element; one cell of it is stored. Nothing of the program is named here; no conditions. -/
set_option maxRecDepth 100000
namespace Go.Proofs.YtjknlhiimmbilaaGreatDoor
open Go.ChangeShapes Go.WideShapes Go.ChangeAt Go.RowKit
theorem flatten_set {β:Type}{n:Nat}(v:β): ∀(css:List (List β)),(∀cs∈css,cs.length=n)→ ∀i j (_hi:i<css.length) (_hj:j<n),css.flatten.set (i*n+j) v=(css.set i (css[i].set j v)).flatten
 | [],_,i,j,hi,_=>by simp at hi
 |d::css,hl,0,j,hi,hj=>by
  have hd:d.length=n:=hl d (by simp)
  simp only [List.flatten_cons,List.set_cons_zero,List.getElem_cons_zero,Nat.zero_mul,Nat.zero_add]
  rw [List.set_append,if_pos (by omega)]
 |d::css,hl,i+1,j,hi,hj=>by
  have hd:d.length=n:=hl d (by simp)
  have hi':i<css.length:=by simpa using hi
  have ih:=flatten_set v css (fun cs hc=>hl cs (by simp [hc])) i j hi' hj
  simp only [List.flatten_cons,List.set_cons_succ,List.getElem_cons_succ]
  rw [List.set_append,if_neg (by rw [hd,Nat.succ_mul];omega),hd,←ih]
  congr 2
  rw [Nat.succ_mul];omega
structure RowC (e:TypeId)(n:Nat)(w:World)(g cap:Nat)(css:List (List Value)):Prop where
 lens: ∀cs∈css,cs.length=n
 le:css.length≤cap
 cell: ∃cur:Array Value,w.heap[g]? =some (.cells cur e (0,0))∧cur.size=cap*n∧cur.toList.take (css.length*n)=css.flatten
section
variable {e:TypeId} {n:Nat} {w w':World} {g cap:Nat} {css:List (List Value)}
theorem RowC.lt (h:RowC e n w g cap css):g<w.heap.size:=by obtain⟨cur,hg, -⟩:=h.cell;exact box_lt hg
theorem RowC.at' (h:RowC e n w g cap css)(hb:w'.heap[g]? =w.heap[g]?):RowC e n w' g cap css:=by
 obtain⟨cur,hg,h2⟩:=h.cell
 exact⟨h.lens,h.le,cur,hb.trans hg,h2⟩
theorem RowC.keep {S:Nat→Prop}(h:RowC e n w g cap css)(hk:Kept S w w')(hS:S g):RowC e n w' g cap css:=h.at' (hk.block g h.lt hS)
theorem RowC.keepB (h:RowC e n w g cap css)(hb:Below w.heap.size w w'):RowC e n w' g cap css:=h.keep (S:=fun k=>k<w.heap.size) (Kept.of_below hb) h.lt
theorem RowC.get (h:RowC e n w g cap css)(i j:Nat)(hi:i<css.length)(hj:j<n):w.cell? ⟨g,i*n+j,none⟩=some (css[i][j]'(by rw [h.lens _ (List.getElem_mem hi)];exact hj)):=by
 obtain⟨cur,hg,h1,h2⟩:=h.cell;have hl:=h.lens _ (List.getElem_mem hi)
 have h3:=flatten_at h.lens i css[i] (by simp [hi]) j (css[i][j]'(by rw [hl];exact hj)) (by simp [hl,hj])
 rw [←h2,List.getElem?_take]at h3;rw [(box_cells hg).1,←Array.getElem?_toList]
 split at h3
 · exact h3
 · simp at h3
theorem RowC.froz (h:RowC e n w g cap css)(i:Nat):w.frozen? ⟨g,i,none⟩=false:=by
 obtain⟨cur,hg, -⟩:=h.cell
 exact(box_cells hg).2 i
theorem RowC.set (h:RowC e n w g cap css)(i j:Nat)(hi:i<css.length)(hj:j<n)(v:Value):RowC e n (w.setCell ⟨g,i*n+j,none⟩ v) g cap (css.set i (css[i].set j v)):=by
 obtain⟨cur,hg,h1,h2⟩:=h.cell;have hl:=h.lens _ (List.getElem_mem hi)
 refine⟨fun cs hc=> ?_,by rw [List.length_set];exact h.le,cur.setIfInBounds (i*n+j) v,box_set hg,by simpa using h1,?_⟩
 · rcases List.mem_or_eq_of_mem_set hc with hc|rfl
   · exact h.lens cs hc
   · rw [List.length_set,hl]
 · rw [Array.toList_setIfInBounds,List.length_set,←flatten_set v css h.lens i j hi hj,←h2,List.take_set]
end
theorem Own.rowC {α:Type}{r:Rep α}{base:Nat}{e:TypeId}{F:Nat→Prop}{w:World}{v:Value}{xs:List α}(h:Own r base e F w v xs)(h0:0<xs.length):
   ∃g cap css S,v= .slice (some ⟨g,0,none⟩) xs.length cap∧base≤g∧F g∧cap≤maxLen∧RowC e r.n w g cap css∧css.length=xs.length∧(∀k,S k→F k∧k<w.heap.size∧k≠g)∧ ∀(i:Nat) (cs:List Value) (x:α),css[i]? =some cs→xs[i]? =some x→r.rel S w cs x:=by
 obtain⟨S,css,hS,hv,hl,hr,ho⟩:=h
 rcases ho.2 with⟨rfl,h0'⟩|⟨g,cap,cur,rfl,hb,hg,h1,h2,h3,h4⟩
 · omega
 · exact⟨g,cap,css,S,rfl,hb,(hv g rfl).2,h2,⟨all_len hl hr,by rw [hl];exact h1,cur,hg,h3,by rw [hl];exact h4⟩,hl,
     fun k hk=>⟨(hS k hk).1,(hS k hk).2,fun e=>(hv g rfl).1 (e▸hk)⟩,hr⟩
theorem RowC.slice {α:Type} {r:Rep α} {e:TypeId} {F:Nat→Prop} {w:World} {g cap:Nat} {css:List (List Value)} {xs:List α} (h:RowC e r.n w g cap css) (hc:cap≤maxLen) (hl:css.length=xs.length)
   (hr: ∀(i:Nat) (cs:List Value) (x:α),css[i]? =some cs→xs[i]? =some x→r.rel F w cs x) (hF:F g):(sliceR r).rel F w [.slice (some ⟨g,0,none⟩) xs.length cap] xs:=by
 have hle:=h.le
 refine⟨_,_,_,rfl,rfl,by omega,hc,fun h=>by simp at h,fun i x hx=> ?_⟩
 have hi:i<xs.length:=(List.getElem?_eq_some_iff.1 hx).1
 have hcs:css[i]? =some (css[i]'(by omega)):=by simp [hl,hi]
 refine⟨g,0,css[i]'(by omega),rfl,hF,hr i _ x hcs hx,fun j c hj=> ?_,h.lt⟩
 obtain⟨hj1,rfl⟩:=List.getElem?_eq_some_iff.1 hj
 have:=h.get i j (by omega) (by rw [←h.lens _ (List.getElem_mem (show i<css.length by omega))];exact hj1)
 simpa using this
end Go.Proofs.YtjknlhiimmbilaaGreatDoor
/- The state of a chain of the program: Apply. -/
set_option maxRecDepth 100000
set_option maxHeartbeats 4000000
namespace Go.Proofs.YtjknlhiimmbilaaGreatDoor
open Go.ChangeShapes Go.WideShapes Go.ChangeAt Go.RowKit Go.Sort
def PoTo (p:Nat)(I:Nat→Prop)(v:PoV)(w:World)(r:RuM)(s':PoM)(w':World):Prop:=
 ∃(I':Nat→Prop) (v':PoV),PoAt p I' w' r s' v'∧Kept (fun k=> ¬PoMut p v k) w w'∧(∀k,PoMut p v' k→PoMut p v k∨w.heap.size≤k)∧ ∀k,I' k→I k∨PoMut p v k∨w.heap.size≤k
theorem PoTo.of_below {p:Nat}{I:Nat→Prop}{v:PoV}{w w':World}{r:RuM}{s:PoM}(h:PoAt p I w r s v)(hb:Below w.heap.size w w'):PoTo p I v w r s w':=
 ⟨I,v,h.keepB hb,Kept.of_below hb,fun _ h=> .inl h,fun _ h=> .inl h⟩
theorem leaves_len {r:RuM}{s:PoM}{n:Nat}(h:PoOK r s n):s.leaves.length≤1000000:=by
 have h1:=h.count;have h2:=h.tree.c1
 obtain⟨-, -,e3⟩:=pow12 ⟨r.depth.toNat,by have:=h.tree.d1;omega⟩
 simp only at e3
 omega
theorem Tryz.etyBef:ElemTy Tryz.prog 101 117 7 104:=ElemTy.of Tryz.underlying101 (z:= .agg #[.int .i64 0,.int .i64 0,.slice none 0 0,.int .i64 0,.slice none 0 0,.slice none 0 0,.int .u64 0]) (by kernel_rfl) rfl (by omega)
theorem PoAt.more {p:Nat}{I I2:Nat→Prop}{w:World}{r:RuM}{s:PoM}{v:PoV}(h:PoAt p I w r s v)(h2: ∀k,I2 k→ ¬PoMut p v k∧k<w.heap.size):PoAt p (fun k=>I k∨I2 k) w r s v:=
 ⟨h.cell,h.data.mono fun _=> .inl,h.apart,fun k hm hi=>hi.elim (h.free k hm) fun h'=>(h2 k h').1 hm,fun k hi=>hi.elim (h.lt k) fun h'=>(h2 k h').2⟩
def apW (r:RuM)(s:PoM)(b:BlkM):PoM:=if applyE r s b=0 then applyW r s b else s
theorem apW_ok {r:RuM}{s:PoM}{b:BlkM}(h:applyE r s b=0):apW r s b=applyW r s b:=if_pos h
theorem apW_bad {r:RuM}{s:PoM}{b:BlkM}(h:applyE r s b≠0):apW r s b=s:=if_neg h
theorem apply_any (p:Nat)(I:Nat→Prop)(w:World)(r:RuM)(hr:RuOK r)(s:PoM)(v:PoV)(h:PoAt p I w r s v)(N:Nat)(ok:PoOK r s N)(hN:N≤80000)(hpl:s.past.length≤10000)(S:Nat→Prop)(b:BlkM)(xa:Option Addr)(xc:Nat)(hb:BlkIn S w b xa xc)(hbl:b.txs.length≤64)(hS: ∀k,S k→ ¬PoMut p v k):
   Calls Tryz.prog 20 #[.pointer (some ⟨p,0,none⟩),.agg #[.int .u64 b.parent,.int .i64 b.height,.int .u64 b.miner,.int .u64 b.work,.int .u64 b.nonce,.slice xa b.txs.length xc]] w fun e w'=>e= .returned (.int .i64 (applyE r s b))∧PoTo p I v w r (apW r s b) w':=by
 have hbA:=bnew (Below.refl w.heap.size w) (.cells #[.int .u64 b.parent,.int .i64 b.height,.int .u64 b.miner,.int .u64 b.work,.int .u64 b.nonce,.slice xa b.txs.length xc] 48);have HX:=Hd (box_new w (.cells #[.int .u64 b.parent,.int .i64 b.height,.int .u64 b.miner,.int .u64 b.work,.int .u64 b.nonce,.slice xa b.txs.length xc] 48));have HP:=Hd (h.keepB hbA);have HP0:=Hd h
 have HT:Hid (BlkIn (fun k=>S k∧k<w.heap.size) (w.alloc (.cells #[.int .u64 b.parent,.int .i64 b.height,.int .u64 b.miner,.int .u64 b.work,.int .u64 b.nonce,.slice xa b.txs.length xc] 48)) b xa xc):=BlkIn.keepB ⟨hb.parent,hb.height,hb.miner,hb.work,hb.nonce,txsR.bound hb.txs⟩ hbA
 have HB:=Hd hbA;have HOK:=Hd ok;have HR:=Hd hr;have HS:=Hd hS;have HHE:=Hd (okI_in hb.height);have HU:Hid (applyE r s b=if b.height=s.past.length+1 then (if b.miner<18446744069414584321 then blockE r s b else 1)else 18):=rfl;have HUP:=Hd h.data.marks.set.up;clear hbA h hb ok hS hr
 go_enter Tryz.func20,Tryz.ntmps20
 go_upto_region 1 with(fail)
 generalize w.alloc (.cells #[.int .u64 b.parent,.int .i64 b.height,.int .u64 b.miner,.int .u64 b.work,.int .u64 b.nonce,.slice xa b.txs.length xc] 48)=W at*;have x0:=box_regrown HX.out;have y0:=box_regrown HP.out.cell
 simp only [poCells]at y0
 have e1:wrap64 ((s.past.length:Int)+1)=(s.past.length:Int)+1:=by unfold wrap64;omega
 by_cases hh:b.height=s.past.length+1
 · have HU1:=Hd (HU.out.trans (if_pos hh))
   have z1:(b.height==(s.past.length:Int)+1)=true:=by rw [beq_iff_eq];exact hh
   have z2:(b.height != (s.past.length:Int)+1)=false:=by rw [bne_eq_false_iff_eq];exact hh
   clear hh HU;go_wp2_with fail
   refine wp_region_quiet_below (by kernel_rfl) (by kernel_rfl) ?_
   repeat (first|go_big_quiet_step (fail)|quiet_step (fail))
   refine wpQuiet_nil ?_
   intro w1 hw'
   obtain⟨⟨dq,osq⟩,hw''⟩:=hw';have hbw1:=below_regrown W dq osq;rw [←hw'']at hbw1;clear hw'' x0 y0;have HB1:=Hd (bnext HB.out hbw1);have HW1:=Hd hbw1;clear hbw1;have HX1:=Hd (box_after HW1.out HX.out);obtain⟨x0,x1⟩:=box_cells HX1.out
   by_cases hm:b.miner<18446744069414584321
   · have HU2:=Hd (HU1.out.trans (if_pos hm))
     have z3:decide (18446744069414584321≤b.miner)=false:=decide_eq_false (by omega)
     have HP1:=Hd (HP.out.keepB HW1.out);obtain⟨y0,y1⟩:=box_cells HP1.out.cell
     simp only [poCells]at y0
     clear hm HU1
     go_upto_region 7 with(fail)
     go_cut [5]from 7 (fun v5 wc=> ∃q,v5= .pointer (some ⟨q,0,none⟩)∧w1.heap.size≤q∧Hid (wc.heap[q]? =some (.cells (befCells s [] v.ta none v.ba v.tc 0 v.bc) 117 (0,0)))∧Hid (Below w1.heap.size w1 wc))
     case first=>
       have yy:=fun o'=>(box_cells (box_old (o':=o') HP1.out.cell)).1
       have xx:=fun o'=>(box_cells (box_old (o':=o') HX1.out)).1
       simp only [poCells]at yy
       go_region
       have hbd:Below w1.heap.size w1 (w1.alloc (.cells (befCells s [] v.ta none v.ba v.tc 0 v.bc) 117)).drew:=(bnew (Below.refl _ _) _).drew;have HBD:=Hd hbd;have HBQ:Hid ((w1.alloc (.cells (befCells s [] v.ta none v.ba v.tc 0 v.bc) 117)).drew.heap[w1.heap.size]? =some (.cells (befCells s [] v.ta none v.ba v.tc 0 v.bc) 117 (0,0))):=box_new w1 _;clear hbd;go_wp2_with fail
       go_meet
       case rel=>exact⟨w1.heap.size,rfl,Nat.le_refl _,HBQ,HBD⟩
     case rest=>
       obtain⟨q,rfl,hq,HQ,HWc⟩:=hcut;have HXc:=Hd (box_after HWc.out HX1.out);have HTc:=Hd ((HT.out.keepB HW1.out).keepB HWc.out);have HPc:=Hd (HP1.out.keepB HWc.out)
       have HPW:Hid (PoW p q I wc r s s [] v v.ta none v.ba v.tc 0 v.bc):=
         ⟨HPc.out,HQ.out,HPc.out.data.tree,HPc.out.data.book,HPc.out.data.hidden,Own.nil _ _ _ _ _,fun hm=>by have:=HP1.out.mut_lt q hm;omega,fun hi=>by have:=HP1.out.lt q hi;omega,fun k e=>by simp at e,fun k e=>by simp at e⟩
       have HSS:Hid (∀k,(S k∧k<w.heap.size)→ ¬PoMut p v k∧k≠q∧blkO none≠some k):=fun k hk=>⟨HS.out k hk.1,by have:=HB1.out.size;omega,by simp⟩
       obtain⟨x0,x1⟩:=box_cells HXc.out;clear y0 y1;go_wp2_with fail
       refine(poBlock_any p q I wc r HR.out s v v.ta none v.ba v.tc 0 v.bc HPW.out N HOK.out hN (by omega) _ b xa xc HTc.out hbl HSS.out).mono ?_
       rintro e w3 ⟨rfl,s',m',hpart,hok',hml',hgood,I3,v3,a3,c3,hw3,hs3⟩;have HP3:=Hd hw3;have HS3:=Hd hs3;have HPT:=Hd hpart;clear hw3 hs3 hpart x0 x1
       by_cases he:blockE r s b=0
       · obtain⟨rfl,rfl⟩:=hgood he
         have HE:Hid (applyE r s b=0):=HU2.out.trans he;rw [he]
         have HTF:Hid (okI s.tree.depth∧okI s.tree.count∧okI (s.leaves.length:Int)):=by
           have h1:=HOK.out.tree
           obtain⟨-, -,e3⟩:=pow12 ⟨r.depth.toNat,by have:=h1.d1;omega⟩
           simp only at e3
           have h2:=h1.c0;have h3:=h1.c1;have h4:=h1.depth;have h5:=h1.d1;have h6:=HOK.out.count
           exact⟨okI_of (by omega) (by omega),okI_of (by omega) (by omega),okI_of (by omega) (by omega)⟩
         clear he hgood HU2;have HOKB:=Hd hok'
         have HAW:Hid (applyW r s b=⟨(blockW r s b).tree,(blockW r s b).leaves,(blockW r s b).marks,(blockW r s b).book,(blockW r s b).hidden,(blockW r s b).roots++ [rootF (blockW r s b).tree r.depth.toNat],(blockW r s b).past++ [befM s b]⟩):=by
           show _=_
           rw [HPT.out.roots,HPT.out.past];rfl
         have HL1:Hid ((blockW r s b).past.length≤10000∧(blockW r s b).roots.length≤10001):=by
           have h1:=HOK.out.roots
           show _∧_
           rw [HPT.out.roots,HPT.out.past]
           exact⟨by omega,by omega⟩
         have hp4:=HP3.out.at'.more (I2:=fun k=>blkO a3=some k) (fun k e=>⟨HP3.out.m1 k e,by obtain⟨cur,hc⟩:=own_obj HP3.out.own e;exact box_lt hc⟩)
         have hrel:befR.rel (fun k=>I3 k∨blkO a3=some k) w3 (befCells s (marksL b.txs) v.ta a3 v.ba v.tc c3 v.bc).toList (befM s b):=
           befR.mk (b:=befM s b) ⟨HTF.out.1,HTF.out.2.1,numsR.mono HP3.out.tree fun _ _ h=> .inl h,HTF.out.2.2,numsR.mono HP3.out.own.slice fun _ _ h=> .inr h,(accsR).mono HP3.out.book fun _ _ h=> .inl h,HP3.out.hidden⟩
         generalize blockW r s b=sB at*;have hbd:Below w3.heap.size w3 w3.drew:=(Below.refl _ _).drew;have HP4:=Hd hp4;have HPd:=Hd (hp4.keepB hbd);have HLd:=Hd HPd.out.data.past;have HQd:=Hd (box_after hbd HP3.out.bef)
         have HSRC:Hid (Src befR (fun k=>I3 k∨blkO a3=some k) (w3.drew.alloc (.cells (befCells s (marksL b.txs) v.ta a3 v.ba v.tc c3 v.bc) 117)) (.slice (some ⟨w3.drew.heap.size,0,none⟩) 1 1) [befM s b]):=
           Src.one (befR.keepB hrel (bnew hbd _)) (CellsAt.new w3.drew (befCells s (marksL b.txs) v.ta a3 v.ba v.tc c3 v.bc).toList 117)
         have HA1:Hid (Below w3.heap.size w3 (w3.drew.alloc (.cells (befCells s (marksL b.txs) v.ta a3 v.ba v.tc c3 v.bc) 117))):=bnew hbd _;obtain⟨y0,y1⟩:=box_cells HPd.out.cell
         have yy:=fun o'=>(box_cells (box_old (o':=o') HP4.out.cell)).1
         have xx:=fun o'=>(box_cells (box_old (o':=o') HP3.out.bef)).1
         obtain⟨x0,x1⟩:=box_cells HQd.out
         simp only [poCells]at y0 yy
         clear hbd hp4 hrel HT HTc HPW HP1 HPc HQ HP
         go_upto_region 12 with(fail)
         go_cut [4]from 5 (fun v4 wc=> ∃(I':Nat→Prop) (v':PoV),Hid (PoAt p I' wc r ⟨sB.tree,sB.leaves,sB.marks,sB.book,sB.hidden,sB.roots,sB.past++ [befM s b]⟩ v')∧Hid (Kept (fun k=> ¬PoMut p v3 k) w3 wc)∧Hid (∀k,PoMut p v' k→PoMut p v3 k∨w3.heap.size≤k)∧Hid (∀k,I' k→I3 k∨blkO a3=some k∨PoMut p v3 k∨w3.heap.size≤k))
         case first=>
           go_region_law (first
             |(refine step_append_rel (r:=befR) (base:=0) (v:= .slice v3.pa sB.past.length v3.pc) (u:= .slice (some ⟨w3.drew.heap.size,0,none⟩) 1 1) (S:=fun k=>I3 k∨blkO a3=some k) rfl _ _ rfl Tryz.etyBef rfl rfl (Own.keepB HLd.out (bnew (Below.refl _ _) (.cells (befCells s (marksL b.txs) v.ta a3 v.ba v.tc c3 v.bc) 117))) HSRC.out (fun _ _ hk=> .inl hk) (fun k e hi=>HP4.out.free k (.inr (.inr (.inr (.inr (.inr (by rw [own_blk]at e;exact e)))))) hi) (by have:=HL1.out;unfold maxLen;simp;omega) (by have:=HL1.out;simp;omega) (Nat.zero_le _) ?_
               intro v5 w5 ho5 hk5 hl5
               obtain⟨a6,c6,rfl, -, -⟩:=own_form ho5;have HO5:=Hd ho5
               have hk5':Kept (fun k=>blkO v3.pa≠some k) (w3.drew.alloc (.cells (befCells s (marksL b.txs) v.ta a3 v.ba v.tc c3 v.bc) 117)) w5:=hk5.mono fun k _ h=>by rw [own_blk];exact h
               have HK5:=Hd hk5';have HL5:=Hd hl5;obtain⟨z0,z1⟩:=box_cells (box_kept hk5' (box_after HA1.out HP4.out.cell) HP4.out.ne_pa);clear ho5 hk5 hl5 hk5'))
           all_goals
             have HPa:=HP4.out.keepB HA1.out;have hl6:=HL5.out;rw [own_blk v3.pa]at hl6;obtain⟨a7,c7,I7,e7,hor,hI1,hI2,hat⟩:=HPa.pastTo HO5.out HK5.out hl6
             simp only [Value.slice.injEq,true_and]at e7
             obtain⟨rfl,rfl⟩:=e7;have hz0:w3.heap.size≤(w3.drew.alloc (.cells (befCells s (marksL b.txs) v.ta a3 v.ba v.tc c3 v.bc) 117)).heap.size:=HA1.out.size
             have HK6:Hid (Kept (fun k=> ¬PoMut p v3 k) w3 (w5.setCell ⟨p,17,none⟩ (.slice a6 (sB.past++ [befM s b]).length c6))):=
               ((Kept.of_below HA1.out).trans (HK5.out.mono (S':=fun k=> ¬PoMut p v3 k) fun k _ h e=>h (.inr (.inr (.inr (.inr (.inr e)))))) fun _ _ h=>h).trans (kept_one w5 p 17 _) fun k _ h e=>h (.inl e)
             have HM6:Hid (∀k,PoMut p { v3 with pa:=a6,pc:=c6 } k→PoMut p v3 k∨w3.heap.size≤k):=fun k hm=>by
               rcases hm with e|e|e|e|e|e
               · exact .inl (.inl e)
               · exact .inl (.inr (.inl e))
               · exact .inl (.inr (.inr (.inl e)))
               · exact .inl (.inr (.inr (.inr (.inl e))))
               · exact .inl (.inr (.inr (.inr (.inr (.inl e)))))
               · rcases hor k e with h1|h1
                 · exact .inl (.inr (.inr (.inr (.inr (.inr h1)))))
                 · exact .inr (by omega)
             have HI6:Hid (∀k,I7 k→I3 k∨blkO a3=some k∨PoMut p v3 k∨w3.heap.size≤k):=fun k hi=>by
               rcases hI2 k hi with(h1|h1)|h1|h1
               · exact .inl h1
               · exact .inr (.inl h1)
               · exact .inr (.inr (.inl (.inr (.inr (.inr (.inr (.inr h1)))))))
               · exact .inr (.inr (.inr (by omega)))
             have HAT:=Hd hat
             rw [show(sB.past++ [befM s b]).length=sB.past.length+1 by simp]at HK6 HAT
             clear hat hor hI1 hI2 hl6 HPa x0 x1 y0 y1 xx yy z0 z1;go_wp2_with fail
             go_meet
             case rel=>exact⟨I7,_,HAT,HK6,HM6,HI6⟩
         case rest=>
           obtain⟨I8,v8,HP8,HK8,HM8,HI8⟩:=hcut
           rename World=>wX
           have HFK:Hid (FrOK sB.tree r.depth.toNat):=HOKB.out.tree;have HRT:=Hd (okP (rootF_in HFK.out));obtain⟨D,hD⟩: ∃D,r.depth.toNat=D:=⟨_,rfl⟩;rw [hD]at HFK HRT HAW;obtain⟨rt,hrt⟩: ∃x,rootF sB.tree D=x:=⟨_,rfl⟩;have HRE:=Hd hrt;rw [hrt]at HRT HAW;clear hD hrt;have hbd:Below wX.heap.size wX wX.drew:=(Below.refl _ _).drew;have HPd:=Hd (HP8.out.keepB hbd);obtain⟨y0,y1⟩:=box_cells HPd.out.cell
           simp only [poCells]at y0
           clear hbd
           go_upto_region 13 with(fail)
           go_region_law (first
             |(refine step_append_rel (r:=u64R) (base:=0) (v:= .slice v8.ra sB.roots.length v8.rc) (u:= .slice (some ⟨w7.heap.size,0,none⟩) 1 1) (S:=fun _=>False) rfl _ _ rfl Tryz.etyNums rfl rfl (Own.keepB HP7.out.data.roots (bnew (Below.refl _ _) (.cells #[.int .u64 rt] 24))) HSRC7.out (fun _ _ hk=>hk.elim) (fun _ _ h=>h) (by have:=HL1.out;unfold maxLen;simp;omega) (by have:=HL1.out;simp;omega) (Nat.zero_le _) ?_
               intro v5 w5 ho5 hk5 hl5
               obtain⟨a6,c6,rfl, -, -⟩:=own_form ho5;have HO5:=Hd ho5
               have hk5':Kept (fun k=>blkO v8.ra≠some k) (w7.alloc (.cells #[.int .u64 rt] 24)) w5:=hk5.mono fun k _ h=>by rw [own_blk];exact h
               have HK5:=Hd hk5';have HL5:=Hd hl5;obtain⟨z0,z1⟩:=box_cells (box_kept hk5' (box_old HP7.out.cell) HP7.out.ne_ra);clear ho5 hk5 hl5 hk5')
             |(go_simp;go_at_call 40
               refine(frRoot_any I8 _ sB.tree D HFK.out v8.ta v8.tc HPd.out.data.tree).mono ?_
               rw [HRE.out];rintro e w7 ⟨rfl,hb7⟩;have HB7:Hid (Below wX.heap.size wX w7):=bnext ((Below.refl wX.heap.size wX).drew) hb7;have HP7:=Hd (HP8.out.keepB HB7.out)
               have HSRC7:Hid (Src u64R (fun _=>False) (w7.alloc (.cells #[.int .u64 rt] 24)) (.slice (some ⟨w7.heap.size,0,none⟩) 1 1) [rt]):=Src.one (r:=u64R) (y:=rt) ⟨rfl,HRT.out⟩ (CellsAt.new w7 [.int .u64 rt] 24)
               obtain⟨t0,t1⟩:=box_cells HP7.out.cell
               have tt:=fun o'=>(box_cells (box_old (o':=o') HP7.out.cell)).1
               simp only [poCells]at t0 tt
               clear hb7))
           all_goals
             have HA7:Hid (Below wX.heap.size wX (w7.alloc (.cells #[.int .u64 rt] 24))):=bnew HB7.out _;have HPa:=HP8.out.keepB HA7.out;have hl6:=HL5.out;rw [own_blk v8.ra]at hl6;obtain⟨a7,c7,e7,hor,hat⟩:=HPa.rootsTo HO5.out HK5.out hl6
             simp only [Value.slice.injEq,true_and]at e7
             obtain⟨rfl,rfl⟩:=e7;have hz0:wX.heap.size≤(w7.alloc (.cells #[.int .u64 rt] 24)).heap.size:=HA7.out.size;have hz1:=HK8.out.size;have hz2:=HS3.out.kept.size;have hz3:=(bnext HB1.out HWc.out).size;have hz4:=HB1.out.size
             have h1:Kept (fun k=> ¬PoMut p v k) w wc:=Kept.of_below (bnext HB1.out HWc.out)
             have h2:Kept (fun k=> ¬PoMut p v k) w w3:=h1.trans HS3.out.kept fun k hk hn=>⟨hn,by omega,by simp⟩
             have h3:Kept (fun k=> ¬PoMut p v k) w wX:=h2.trans HK8.out fun k hk hn hm=>by
               rcases HS3.out.turn k hm with h4|h4
               · exact hn h4
               · omega
             have hm8: ∀k,PoMut p v8 k→PoMut p v k∨w.heap.size≤k:=fun k hm=>by
               rcases HM8.out k hm with h4|h4
               · rcases HS3.out.turn k h4 with h5|h5
                 · exact .inl h5
                 · exact .inr (by omega)
               · exact .inr (by omega)
             have HKF:Hid (Kept (fun k=> ¬PoMut p v k) w (w5.setCell ⟨p,16,none⟩ (.slice a6 (sB.roots++ [rt]).length c6))):=by
               refine((h3.trans (Kept.of_below HA7.out) fun _ _ h=>h).trans HK5.out fun k hk hn e=> ?_).trans (kept_one w5 p 16 _) fun k _ h e=>h (.inl e)
               rcases hm8 k (.inr (.inr (.inr (.inr (.inl e)))))with h4|h4
               · exact hn h4
               · omega
             have HMF:Hid (∀k,PoMut p { v8 with ra:=a6,rc:=c6 } k→PoMut p v k∨w.heap.size≤k):=fun k hm=>by
               rcases hm with e|e|e|e|e|e
               · exact hm8 k (.inl e)
               · exact hm8 k (.inr (.inl e))
               · exact hm8 k (.inr (.inr (.inl e)))
               · exact hm8 k (.inr (.inr (.inr (.inl e))))
               · rcases hor k e with h4|h4
                 · exact hm8 k (.inr (.inr (.inr (.inr (.inl h4)))))
                 · exact .inr (by omega)
               · exact hm8 k (.inr (.inr (.inr (.inr (.inr e)))))
             have HIF:Hid (∀k,I8 k→I k∨PoMut p v k∨w.heap.size≤k):=fun k hi=>by
               rcases HI8.out k hi with h4|h4|h4|h4
               · rcases HS3.out.im' k h4 with h5|h5
                 · exact .inl h5
                 · exact .inr (.inr (by omega))
               · rcases HS3.out.mm k h4 with h5|h5
                 · simp at h5
                 · exact .inr (.inr (by omega))
               · rcases HS3.out.turn k h4 with h5|h5
                 · exact .inr (.inl h5)
                 · exact .inr (.inr (by omega))
               · exact .inr (.inr (by omega))
             have HAT:=Hd hat
             rw [show(sB.roots++ [rt]).length=sB.roots.length+1 by simp]at HKF HAT
             clear hat hor hl6 HPa y0 y1 t0 t1 tt z0 z1 h1 h2 h3 hm8;go_wp2_with fail;go_ret;rw [apW_ok HE.out,HE.out,HAW.out]
             exact⟨rfl,I8,_,HAT.out,HKF.out,HMF.out,HIF.out⟩
       · have HE:Hid (applyE r s b=blockE r s b):=HU2.out
         have HNE:=Hd he
         have z4:(blockE r s b==0)=false:=by rw [beq_eq_false_iff_ne];exact he
         have z5:(blockE r s b != 0)=true:=by rw [bne_iff_ne];exact he
         obtain⟨y,hy⟩: ∃y,blockE r s b=y:=⟨_,rfl⟩;have HY:=Hd hy;rw [hy]at z4 z5⊢;clear hy he hgood;obtain⟨x0,x1⟩:=box_cells HP3.out.bef
         have HNA:=Hd (numsR.mono HP3.out.own.slice (S':=fun k=>blkO a3=some k) fun _ _ h=>h)
         have HLV:=Hd (leaves_len hok')
         have hll:s.leaves.length≤(s':PoM).leaves.length:=by have:=congrArg List.length HPT.out.leaves;rw [List.length_take]at this;omega
         go_wp2_with fail
         refine(restore_any p I3 w3 r s' v3 HP3.out.at' ⟨s.tree,s.leaves.length,m',s.book,s.hidden⟩ s.leaves.length rfl hll HLV.out (by have:=hok'.marks;omega) (by show m'.length≤_;omega) v.ta a3 v.ba v.tc c3 v.bc HP3.out.tree HP3.out.book _ HNA.out (fun k e=>HP3.out.m1 k e) HP3.out.hidden).mono ?_
         rintro e w4 ⟨rfl,hp4,hk4⟩;rw [rest_part HPT.out HUP.out]at hp4;have HP4:=Hd hp4;have HK4:=Hd hk4;clear hp4 hk4 x0 x1;go_wp2_with fail;go_ret
         rw [apW_bad (by rw [HE.out];exact HNE.out),HE.out,HY.out]
         have hz1:=HB1.out.size;have hz2:=HWc.out.size;have hz3:=HS3.out.kept.size
         have hqm: ∀k,k<w.heap.size→k≠q:=fun k hk e=>by omega
         refine⟨rfl,I3,_,HP4.out,?_,?_,?_⟩
         · have h1:Kept (fun k=> ¬PoMut p v k) w wc:=Kept.of_below (bnext HB1.out HWc.out)
           have h2:Kept (fun k=> ¬PoMut p v k) w w3:=h1.trans HS3.out.kept fun k hk hn=>⟨hn,hqm k hk,by simp⟩
           refine h2.trans HK4.out fun k hk hn hm=> ?_
           rcases HS3.out.turn k hm with h3|h3
           · exact hn h3
           · have:=(bnext HB1.out HWc.out).size;omega
         · intro k hm
           rcases HS3.out.turn k hm with h3|h3
           · exact .inl h3
           · exact .inr (by have:=(bnext HB1.out HWc.out).size;omega)
         · intro k hi
           rcases HS3.out.im' k hi with h3|h3
           · exact .inl h3
           · exact .inr (.inr (by have:=(bnext HB1.out HWc.out).size;omega))
   · have HF:=Hd (HU1.out.trans (if_neg hm))
     have z3:decide (18446744069414584321≤b.miner)=true:=decide_eq_true (by omega)
     have HPF:Hid (PoTo p I v w r s w1):=PoTo.of_below HP0.out HB1.out;clear hm;go_wp2_with fail;go_ret
     rw [apW_bad (by rw [HF.out];omega),HF.out]
     exact⟨rfl,HPF.out⟩
 · have HF:=Hd (HU.out.trans (if_neg hh))
   have z1:(b.height==(s.past.length:Int)+1)=false:=by rw [beq_eq_false_iff_ne];exact hh
   have z2:(b.height != (s.past.length:Int)+1)=true:=by rw [bne_iff_ne];exact hh
   clear hh HU;go_wp2_with fail
   refine wp_region_quiet_below (by kernel_rfl) (by kernel_rfl) ?_
   repeat (first|go_big_quiet_step (fail)|quiet_step (fail))
   refine wpQuiet_nil ?_
   intro w1 hw'
   obtain⟨⟨dq,osq⟩,hw''⟩:=hw';have hbw1:=below_regrown W dq osq;rw [←hw'']at hbw1;clear hw'' x0 y0;have HPF:Hid (PoTo p I v w r s w1):=PoTo.of_below HP0.out (bnext HB.out hbw1);go_wp2_with fail;go_ret
   rw [apW_bad (by rw [HF.out];omega),HF.out]
   exact⟨rfl,HPF.out⟩
end Go.Proofs.YtjknlhiimmbilaaGreatDoor
