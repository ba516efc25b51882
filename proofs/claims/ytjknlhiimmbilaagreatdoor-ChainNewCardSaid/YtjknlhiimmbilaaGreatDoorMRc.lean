/- The reference's chain: representation; Name, Find. -/
import Derived.Test.YtjknlhiimmbilaaGreatDoorMLw
set_option maxRecDepth 100000
set_option maxHeartbeats 2000000
namespace Go.Proofs.YtjknlhiimmbilaaGreatDoor
open Go.ChangeShapes Go.WideShapes Go.ChangeAt Go.RowKit Go.Sort
structure RsB where
 b:BlkM
 id:Int
 par:Int
 tot:Int
def rsR:Rep RsB:=mapR (fun s=>(s.b,s.id,s.par,s.tot)) (pairR blkR (pairR u64R (pairR (intR .i64) u64R)))
theorem rsR.n:rsR.n=9:=rfl
structure RsIn (S:Nat→Prop)(w:World)(s:RsB)(xa:Option Addr)(xc:Nat):Prop where
 blk:BlkIn S w s.b xa xc
 id:okU s.id
 par:okI s.par
 tot:okU s.tot
theorem rsR.inv {S:Nat→Prop}{w:World}{cs:List Value}{s:RsB}(h:rsR.rel S w cs s):
   ∃xa xc,cs= [.int .u64 s.b.parent,.int .i64 s.b.height,.int .u64 s.b.miner,.int .u64 s.b.work,.int .u64 s.b.nonce,.slice xa s.b.txs.length xc,.int .u64 s.id,.int .i64 s.par,.int .u64 s.tot]∧RsIn S w s xa xc:=by
 obtain⟨c1,_,rfl,h1,_,_,rfl,⟨rfl,w2⟩,_,_,rfl,⟨rfl,w3⟩,⟨rfl,w4⟩⟩:=h;obtain⟨xa,xc,rfl,hb⟩:=blkR.inv h1
 exact⟨xa,xc,rfl,hb,w2,w3,w4⟩
theorem RsIn.keep {S:Nat→Prop}{w w':World}{s:RsB}{xa:Option Addr}{xc:Nat}(h:RsIn S w s xa xc)(hk:Kept S w w'):RsIn S w' s xa xc:=⟨h.blk.keep hk,h.id,h.par,h.tot⟩
theorem RsIn.keepB {S:Nat→Prop}{w w':World}{s:RsB}{xa:Option Addr}{xc:Nat}(h:RsIn S w s xa xc)(hb:Below w.heap.size w w'):RsIn S w' s xa xc:=h.keep (Kept.of_below hb)
abbrev rssR:Rep (List RsB):=sliceR rsR
theorem rss_at {S:Nat→Prop}{w:World}{a:Option Addr}{len cap:Nat}{l:List RsB}(h:rssR.rel S w [.slice a len cap] l)(k:Nat)(hk:k<l.length):
   ∃b off xa xc,a=some ⟨b,off,none⟩∧b<w.heap.size∧RsIn S w l[k] xa xc∧w.cell? ⟨b,off+k*9,none⟩=some (.int .u64 l[k].b.parent)∧w.cell? ⟨b,off+k*9+1,none⟩=some (.int .i64 l[k].b.height)∧w.cell? ⟨b,off+k*9+2,none⟩=some (.int .u64 l[k].b.miner)∧w.cell? ⟨b,off+k*9+3,none⟩=some (.int .u64 l[k].b.work)∧w.cell? ⟨b,off+k*9+4,none⟩=some (.int .u64 l[k].b.nonce)∧w.cell? ⟨b,off+k*9+5,none⟩=some (.slice xa l[k].b.txs.length xc)∧w.cell? ⟨b,off+k*9+6,none⟩=some (.int .u64 l[k].id)∧w.cell? ⟨b,off+k*9+7,none⟩=some (.int .i64 l[k].par)∧w.cell? ⟨b,off+k*9+8,none⟩=some (.int .u64 l[k].tot):=by
 obtain⟨b,off,es,rfl,hb,hbl,hrel,hca⟩:=sliceR.at h k hk;obtain⟨xa,xc,rfl,ht⟩:=rsR.inv hrel;rw [rsR.n]at hca
 exact⟨b,off,xa,xc,rfl,hbl,ht,hca 0 _ rfl,hca 1 _ rfl,hca 2 _ rfl,hca 3 _ rfl,hca 4 _ rfl,hca 5 _ rfl,hca 6 _ rfl,hca 7 _ rfl,hca 8 _ rfl⟩
structure RcM where
 L:List RsB
 tip:Int
 fin:Int
def zeroR:RsB:=⟨⟨0,0,0,0,0,[]⟩,0, -1,0⟩
def nameI (L:List RsB)(i:Int):Int:=if i<0 then 0 else (L.getD i.toNat zeroR).id
def nameH (L:List RsB)(i:Int):Int:=if i<0 then 0 else (L.getD i.toNat zeroR).b.height
theorem getD_rs (L:List RsB)(k:Nat)(h:k<L.length):L.getD k zeroR=L[k]:=by rw [List.getD_eq_getElem?_getD,List.getElem?_eq_getElem h];rfl
theorem name48_any (S:Nat→Prop)(w:World)(pi:Bool)(r:RuM)(m:RcM)(la:Option Addr)(lc:Nat)(h:rssR.rel S w [.slice la m.L.length lc] m.L)(i:Int)(hi:i<m.L.length):
   Calls Tryz.prog 31 #[.agg #[.bool pi,.int .u64 0,.int .i64 0,.slice none 0 0,.slice none 0 0,.slice none 0 0,.int .i64 r.mode,.int .i64 r.depth,.int .i64 r.bl,.int .i64 r.bu,.int .i64 r.qu,.int .u64 r.rew,.int .i64 r.win,.int .i64 r.fin,.int .u64 r.work,.slice la m.L.length lc,.int .i64 m.tip,.int .i64 m.fin],.int .i64 i] w fun e w'=>e= .returned (.tuple #[.int .u64 (nameI m.L i),.int .i64 (nameH m.L i)])∧Below w.heap.size w w':=by
 have g1:=(sliceR.lens h).2;unfold maxLen at g1;have hbA:=bnew (Below.refl w.heap.size w) (.cells #[.bool pi,.int .u64 0,.int .i64 0,.slice none 0 0,.slice none 0 0,.slice none 0 0,.int .i64 r.mode,.int .i64 r.depth,.int .i64 r.bl,.int .i64 r.bu,.int .i64 r.qu,.int .u64 r.rew,.int .i64 r.win,.int .i64 r.fin,.int .u64 r.work,.slice la m.L.length lc,.int .i64 m.tip,.int .i64 m.fin] 43);have HX:=Hd (box_new w (.cells #[.bool pi,.int .u64 0,.int .i64 0,.slice none 0 0,.slice none 0 0,.slice none 0 0,.int .i64 r.mode,.int .i64 r.depth,.int .i64 r.bl,.int .i64 r.bu,.int .i64 r.qu,.int .u64 r.rew,.int .i64 r.win,.int .i64 r.fin,.int .u64 r.work,.slice la m.L.length lc,.int .i64 m.tip,.int .i64 m.fin] 43));have H:=Hd (rssR.keepB h hbA);have HB:=Hd hbA;clear hbA h
 go_enter Tryz.func31,Tryz.ntmps31
 go_upto_region 1 with(fail)
 generalize w.alloc (.cells #[.bool pi,.int .u64 0,.int .i64 0,.slice none 0 0,.slice none 0 0,.slice none 0 0,.int .i64 r.mode,.int .i64 r.depth,.int .i64 r.bl,.int .i64 r.bu,.int .i64 r.qu,.int .u64 r.rew,.int .i64 r.win,.int .i64 r.fin,.int .u64 r.work,.slice la m.L.length lc,.int .i64 m.tip,.int .i64 m.fin] 43)=W at*
 by_cases hn:i<0
 · have HI:Hid (nameI m.L i=0):=if_pos hn
   have HH:Hid (nameH m.L i=0):=if_pos hn;go_wp2_with fail;go_ret2
   exact⟨by rw [HI.out,HH.out];rfl,HB.out⟩
 · obtain⟨k,rfl⟩: ∃k:Nat,i=k:=⟨i.toNat,by omega⟩
   have hk:k<m.L.length:=by omega
   have HI:Hid (nameI m.L k=m.L[k].id):=by show _=_;unfold nameI;rw [if_neg hn,Int.toNat_natCast,getD_rs _ _ hk]
   have HH:Hid (nameH m.L k=m.L[k].b.height):=by show _=_;unfold nameH;rw [if_neg hn,Int.toNat_natCast,getD_rs _ _ hk]
   obtain⟨bb,off,xa,xc,rfl,hbl,hb,c0,c1,c2,c3,c4,c5,c6,c7,c8⟩:=rss_at H.out k hk;generalize m.L[k].id=x1 at*;generalize m.L[k].b.height=x2 at*;have x0:=box_regrown HX.out;have y1:=cell_in c1;have y6:=cell_in c6
   have i0:(0:Int)≤(k:Int):=by omega
   have i1:(k:Int)<(m.L.length:Int):=by omega
   clear c0 c1 c2 c3 c4 c5 c6 c7 c8 hb;go_wp2_with fail
   refine wp_region_quiet_below (by kernel_rfl) (by kernel_rfl) ?_
   repeat (first|go_big_quiet_step (fail)|quiet_step (fail))
   refine wpQuiet_nil ?_
   intro wq hw'
   obtain⟨⟨dq,osq⟩,hw''⟩:=hw';have hbwq:=below_regrown W dq osq;rw [←hw'']at hbwq;clear hw'' x0 y1 y6;go_wp2_with fail;go_ret2
   exact⟨by rw [HI.out,HH.out];rfl,bnext HB.out hbwq⟩
def findR (L:List RsB)(x:Int):Int:=match L.findIdx? (fun s=>s.id==x)with
 |some k=>(k:Int)
 |none=> -1
theorem findR_at {L:List RsB}{x:Int}{k:Nat}(hk:k<L.length)(h: ∀j (hj:j<L.length),j<k→L[j].id≠x)(hx:L[k].id=x):findR L x=k:=by
 unfold findR
 rw [(List.findIdx?_eq_some_iff_getElem (p:=fun s:RsB=>s.id==x)).2 ⟨hk,by simpa using hx,fun j hj=>by have:=h j (by omega) hj;simpa using this⟩]
theorem findR_none {L:List RsB}{x:Int}(h: ∀j (hj:j<L.length),j<L.length→L[j].id≠x):findR L x= -1:=by
 unfold findR
 rw [List.findIdx?_eq_none_iff.2 (fun s hs=>by
   obtain⟨j,hj,rfl⟩:=List.getElem_of_mem hs;have:=h j hj hj
   simpa using this)]
end Go.Proofs.YtjknlhiimmbilaaGreatDoor
/- The reference's chain: Way, on, beyond, Best. -/
set_option maxRecDepth 100000
set_option maxHeartbeats 2000000
namespace Go.Proofs.YtjknlhiimmbilaaGreatDoor
open Go.ChangeShapes Go.WideShapes Go.ChangeAt Go.RowKit Go.Sort
theorem Own.low {α:Type}{r:Rep α}{base base':Nat}{e:TypeId}{F:Nat→Prop}{w:World}{v:Value}{xs:List α}(h:Own r base e F w v xs)(hb:base'≤base):Own r base' e F w v xs:=by
 obtain⟨S,css,hS,hv,hl,hr,ho⟩:=h
 refine⟨S,css,hS,hv,hl,hr,ho.1,?_⟩
 rcases ho.2 with h0|⟨g,cap,cur,h1,h2,h3⟩
 · exact .inl h0
 · exact .inr ⟨g,cap,cur,h1,Nat.le_trans hb h2,h3⟩
theorem cell_below' {w w':World}{a:Addr}{v:Value}(hb:Below w.heap.size w w')(h:w.cell? a=some v):w'.cell? a=some v:=(Kept.of_below (S:=fun _=>True) hb).cell trivial h
abbrev intsR:Rep (List Int):=sliceR (intR .i64)
theorem ints_at {S:Nat→Prop}{w:World}{a:Option Addr}{len cap:Nat}{l:List Int}(h:intsR.rel S w [.slice a len cap] l)(k:Nat)(hk:k<l.length):
   ∃b off,a=some ⟨b,off,none⟩∧okI l[k]∧w.cell? ⟨b,off+k,none⟩=some (.int .i64 l[k]):=by
 obtain⟨b,off,es,rfl,hb,hbl,hrel,hca⟩:=sliceR.at h k hk;obtain⟨rfl,hw⟩:=hrel;have:=hca 0 _ rfl;rw [show(intR .i64).n=1 from rfl,Nat.mul_one]at this
 exact⟨b,off,rfl,hw,this⟩
theorem Tryz.etyInts:ElemTy Tryz.prog 136 3 1 8:=ElemTy.of Tryz.underlying136 (z:= .int .i64 0) (by kernel_rfl) rfl (by omega)
def wayR (L:List RsB):Nat→Int→List Int
 |0,_=> []
 |n+1,i=>if i<0 then []else wayR L n (L.getD i.toNat zeroR).par++ [i]
def ParOK (L:List RsB):Prop:= ∀k (hk:k<L.length), -1≤L[k].par∧L[k].par<k
theorem wayR_len (L:List RsB): ∀n i,(wayR L n i).length≤n
 |0,_=>Nat.le_refl _
 |n+1,i=>by
  unfold wayR
  split
  · simp
  · rw [List.length_append,List.length_singleton];have:=wayR_len L n (L.getD i.toNat zeroR).par;omega
def WayOut (l:List Int)(w:World)(e:Ending)(w':World):Prop:= ∃v,e= .returned v∧Own (intR .i64) w.heap.size 3 (fun k=>w.heap.size≤k) w' v l∧Below w.heap.size w w'
abbrev WyS (W:World)(x:Nat)(cs:Array Value)(p:Addr)(pv:Value)(w':World):Prop:=Below W.heap.size W w'∧(∀o,w'.cell? ⟨x,o,none⟩=cs[o]?)∧w'.cell? p=some pv
section
variable {W w1 w2:World} {x:Nat} {cs:Array Value} {p:Addr} {pv:Value} {t:TypeId}
theorem WyS.of (hx:W.heap[x]? =some (.cells cs t (0,0)))(hp:W.cell? p=some pv)(hb:Below W.heap.size W w1):WyS W x cs p pv w1:=⟨hb,(box_cells (box_after hb hx)).1,cell_below' hb hp⟩
theorem WyS.drew (h:WyS W x cs p pv w1):WyS W x cs p pv w1.drew:=⟨h.1.drew,h.2.1,h.2.2⟩
end
theorem way48_any (S:Nat→Prop)(pi:Bool)(r:RuM)(m:RcM)(la:Option Addr)(lc:Nat)(hp:ParOK m.L): ∀(n:Nat) (w:World) (i:Int),i<n→ -1≤i→i<m.L.length→n≤10000→rssR.rel S w [.slice la m.L.length lc] m.L→
   Calls Tryz.prog 65 #[.agg #[.bool pi,.int .u64 0,.int .i64 0,.slice none 0 0,.slice none 0 0,.slice none 0 0,.int .i64 r.mode,.int .i64 r.depth,.int .i64 r.bl,.int .i64 r.bu,.int .i64 r.qu,.int .u64 r.rew,.int .i64 r.win,.int .i64 r.fin,.int .u64 r.work,.slice la m.L.length lc,.int .i64 m.tip,.int .i64 m.fin],.int .i64 i] w (WayOut (wayR m.L n i) w):=by
 intro n
 induction n with
 |zero=>
  intro w i hn hi0 hiL hn1 h
  obtain rfl:i= -1:=by omega
  have g1:=(sliceR.lens h).2;unfold maxLen at g1;have hbA:=bnew (Below.refl w.heap.size w) (.cells #[.bool pi,.int .u64 0,.int .i64 0,.slice none 0 0,.slice none 0 0,.slice none 0 0,.int .i64 r.mode,.int .i64 r.depth,.int .i64 r.bl,.int .i64 r.bu,.int .i64 r.qu,.int .u64 r.rew,.int .i64 r.win,.int .i64 r.fin,.int .u64 r.work,.slice la m.L.length lc,.int .i64 m.tip,.int .i64 m.fin] 43);have HX:=Hd (box_new w (.cells #[.bool pi,.int .u64 0,.int .i64 0,.slice none 0 0,.slice none 0 0,.slice none 0 0,.int .i64 r.mode,.int .i64 r.depth,.int .i64 r.bl,.int .i64 r.bu,.int .i64 r.qu,.int .u64 r.rew,.int .i64 r.win,.int .i64 r.fin,.int .u64 r.work,.slice la m.L.length lc,.int .i64 m.tip,.int .i64 m.fin] 43));have H:=Hd (rssR.keepB h hbA);have HB:=Hd hbA;clear hbA h
  go_enter Tryz.func65,Tryz.ntmps65
  go_upto_region 1 with(fail)
  generalize w.alloc (.cells #[.bool pi,.int .u64 0,.int .i64 0,.slice none 0 0,.slice none 0 0,.slice none 0 0,.int .i64 r.mode,.int .i64 r.depth,.int .i64 r.bl,.int .i64 r.bu,.int .i64 r.qu,.int .u64 r.rew,.int .i64 r.win,.int .i64 r.fin,.int .u64 r.work,.slice la m.L.length lc,.int .i64 m.tip,.int .i64 m.fin] 43)=W at*;go_wp2_with fail;go_ret
  exact⟨_,rfl,Own.nil _ _ _ _ _,HB.out⟩
 |succ n ih=>
  intro w i hn hi0 hiL hn1 h
  have g1:=(sliceR.lens h).2;unfold maxLen at g1;have hbA:=bnew (Below.refl w.heap.size w) (.cells #[.bool pi,.int .u64 0,.int .i64 0,.slice none 0 0,.slice none 0 0,.slice none 0 0,.int .i64 r.mode,.int .i64 r.depth,.int .i64 r.bl,.int .i64 r.bu,.int .i64 r.qu,.int .u64 r.rew,.int .i64 r.win,.int .i64 r.fin,.int .u64 r.work,.slice la m.L.length lc,.int .i64 m.tip,.int .i64 m.fin] 43);have HX:=Hd (box_new w (.cells #[.bool pi,.int .u64 0,.int .i64 0,.slice none 0 0,.slice none 0 0,.slice none 0 0,.int .i64 r.mode,.int .i64 r.depth,.int .i64 r.bl,.int .i64 r.bu,.int .i64 r.qu,.int .u64 r.rew,.int .i64 r.win,.int .i64 r.fin,.int .u64 r.work,.slice la m.L.length lc,.int .i64 m.tip,.int .i64 m.fin] 43));have H:=Hd (rssR.keepB h hbA);have HB:=Hd hbA;clear hbA h
  go_enter Tryz.func65,Tryz.ntmps65
  go_upto_region 1 with(fail)
  generalize w.alloc (.cells #[.bool pi,.int .u64 0,.int .i64 0,.slice none 0 0,.slice none 0 0,.slice none 0 0,.int .i64 r.mode,.int .i64 r.depth,.int .i64 r.bl,.int .i64 r.bu,.int .i64 r.qu,.int .u64 r.rew,.int .i64 r.win,.int .i64 r.fin,.int .u64 r.work,.slice la m.L.length lc,.int .i64 m.tip,.int .i64 m.fin] 43)=W at*
  by_cases hneg:i<0
  · have HE:Hid (wayR m.L (n+1) i= []):=if_pos hneg
    go_wp2_with fail;go_ret
    exact⟨_,rfl,by rw [HE.out];exact Own.nil _ _ _ _ _,HB.out⟩
  · obtain⟨k,rfl⟩: ∃k:Nat,i=k:=⟨i.toNat,by omega⟩
    have hk:k<m.L.length:=by omega
    have HE:Hid (wayR m.L (n+1) k=wayR m.L n m.L[k].par++ [(k:Int)]):=by show _=_;rw [wayR,if_neg hneg,Int.toNat_natCast,getD_rs _ _ hk]
    obtain⟨bb,off,xa,xc,rfl,hbl,hb,c0,c1,c2,c3,c4,c5,c6,c7,c8⟩:=rss_at H.out k hk;have HP:=Hd (hp k hk)
    have hko:okI k:=okI_of (by omega) (by omega)
    generalize m.L[k].par=p at*;obtain⟨x0,x1⟩:=box_cells HX.out;have HC7:=Hd c7;have HLW:=Hd (wayR_len m.L n p)
    have i0:(0:Int)≤(k:Int):=by omega
    have i1:(k:Int)<(m.L.length:Int):=by omega
    have HI:Hid (∀w1,rssR.rel S w1 [.slice (some ⟨bb,off,none⟩) m.L.length lc] m.L→Calls Tryz.prog 65 #[.agg #[.bool pi,.int .u64 0,.int .i64 0,.slice none 0 0,.slice none 0 0,.slice none 0 0,.int .i64 r.mode,.int .i64 r.depth,.int .i64 r.bl,.int .i64 r.bu,.int .i64 r.qu,.int .u64 r.rew,.int .i64 r.win,.int .i64 r.fin,.int .u64 r.work,.slice (some ⟨bb,off,none⟩) m.L.length lc,.int .i64 m.tip,.int .i64 m.fin],.int .i64 p] w1 (WayOut (wayR m.L n p) w1)):=fun w1 h1=>ih w1 p (by have:=HP.out.2;omega) HP.out.1 (by have:=HP.out.2;omega) (by omega) h1
    clear c0 c1 c2 c3 c4 c5 c6 c8 hb;go_wp2_with fail
    go_region_held3 (fun w'=>Below W.heap.size W w'∧(∀o,w'.cell? ⟨w.heap.size,o,none⟩=(#[.bool pi,.int .u64 0,.int .i64 0,.slice none 0 0,.slice none 0 0,.slice none 0 0,.int .i64 r.mode,.int .i64 r.depth,.int .i64 r.bl,.int .i64 r.bu,.int .i64 r.qu,.int .u64 r.rew,.int .i64 r.win,.int .i64 r.fin,.int .u64 r.work,.slice (some ⟨bb,off,none⟩) m.L.length lc,.int .i64 m.tip,.int .i64 m.fin]:Array Value)[o]?)∧w'.cell? ⟨bb,off+k*9+7,none⟩=some (.int .i64 p))
      (first
        |with_reducible exact WyS.drew (WyS.of HX.out HC7.out (Below.refl _ _))
        |with_reducible exact HK2.out
        |with_reducible exact HK1.out
        |with_reducible exact WyS.of HX.out HC7.out (bnew (Below.refl _ _) _).drew
        |with_reducible exact WyS.of HX.out HC7.out (bnew HK1.out.1 _))
      (first
        |(refine wp_append_rel (r:=intR .i64) (base:=w.heap.size) (v:= .slice va (wayR m.L n p).length vc) (u:= .slice (some ⟨W.heap.size,0,none⟩) 1 1) (S:=fun _=>False) _ _ rfl Tryz.etyInts rfl rfl HO1.out (Src.one (r:=intR .i64) (y:=(k:Int)) ⟨rfl,hko⟩ HLIT.out) (fun _ _ h=>h.elim) (fun _ _ h=>h) (by have:=HLW.out;unfold maxLen;simp;omega) (by have:=HLW.out;simp;omega) HB1.out.size ?_
          intro v2 w2 ho2 hk2 hl2
          have HO2:Hid (Own (intR .i64) w.heap.size 3 (fun k=>w.heap.size≤k) w2 v2 (wayR m.L n p++ [(k:Int)])):=ho2.mono fun j _ hj=>hj.elim id fun h=>Nat.le_trans HB1.out.size h
          have HB2:Hid (Below w.heap.size w w2):=Kept.behind HB1.out hk2 HB1.out.size (fun j hj e=>by have:=(HO1.out.lt e).2.1;omega)
          have HK2:=Hd (WyS.of HX.out HC7.out (Kept.behind HK1.out.1 hk2 HK1.out.1.size (fun j hj e=>by have:=HV1.out _ e;omega)))
          clear ho2 hk2 hl2)
        |(refine wp_append_rel (r:=intR .i64) (base:=w.heap.size) (v:= .slice va (wayR m.L n p).length vc) (u:= .slice (some ⟨w1.heap.size,0,none⟩) 1 1) (S:=fun _=>False) _ _ rfl Tryz.etyInts rfl rfl (Own.keepB HO1.out (bnew (Below.refl _ _) _)) (Src.one (r:=intR .i64) (y:=(k:Int)) ⟨rfl,hko⟩ (CellsAt.new w1 [.int .i64 k] 3)) (fun _ _ h=>h.elim) (fun _ _ h=>h) (by have:=HLW.out;unfold maxLen;simp;omega) (by have:=HLW.out;simp;omega) (Nat.le_trans HB1.out.size (bnew (Below.refl _ _) _).size) ?_
          intro v2 w2 ho2 hk2 hl2
          have HO2:Hid (Own (intR .i64) w.heap.size 3 (fun k=>w.heap.size≤k) w2 v2 (wayR m.L n p++ [(k:Int)])):=ho2.mono fun j _ hj=>hj.elim id fun h=>Nat.le_trans HB1.out.size (Nat.le_trans (bnew (Below.refl _ _) _).size h)
          have HB2:Hid (Below w.heap.size w w2):=Kept.behind (bnew HB1.out (.cells #[.int .i64 k] 3)) hk2 (Nat.le_trans HB1.out.size (bnew (Below.refl _ _) _).size) (fun j hj e=>by have:=(HO1.out.lt e).2.1;omega)
          have HK2:=Hd (WyS.of HX.out HC7.out (Kept.behind (bnew HK1.out.1 _) hk2 (bnew HK1.out.1 _).size (fun j hj e=>by have:=HV1.out _ e;omega)))
          clear ho2 hk2 hl2)
        |(go_at_call 65;refine(HI.out _ (rssR.keepB H.out (‹Below W.heap.size W _∧_∧_›).1)).mono ?_
          rintro e w1 ⟨vv,rfl,ho1,hb1⟩;obtain⟨va,vc,rfl, -, -⟩:=own_form ho1;have HK1:=Hd (WyS.of HX.out HC7.out (bnext (‹Below W.heap.size W _∧_∧_›).1 hb1))
          (try have HLIT:Hid (CellsAt w1 W.heap.size 0 [.int .i64 k]):=fun j c hj=>cell_below' hb1 (CellsAt.new W [.int .i64 k] 3 j c hj))
          have HB1:Hid (Below w.heap.size w w1):=bnext HB.out HK1.out.1
          have HV1:Hid (∀x,(Value.slice va (wayR m.L n p).length vc).ownBlock=some x→W.heap.size≤x):=fun x e=>Nat.le_trans (‹Below W.heap.size W _∧_∧_›).1.size (ho1.lt e).2.1
          have HO1:Hid (Own (intR .i64) w.heap.size 3 (fun k=>w.heap.size≤k) w1 (.slice va (wayR m.L n p).length vc) (wayR m.L n p)):=(Own.low ho1 (Nat.le_trans HB.out.size (‹Below W.heap.size W _∧_∧_›).1.size)).mono fun j _ hj=>Nat.le_trans (Nat.le_trans HB.out.size (‹Below W.heap.size W _∧_∧_›).1.size) hj
          clear ho1 hb1))
    all_goals
      go_wp2_with fail;go_ret
      exact⟨_,rfl,by rw [HE.out];exact HO2.out,HB2.out⟩
end Go.Proofs.YtjknlhiimmbilaaGreatDoor
/- The reference's chain: on, beyond, Best. -/
set_option maxRecDepth 100000
set_option maxHeartbeats 2000000
namespace Go.Proofs.YtjknlhiimmbilaaGreatDoor
open Go.ChangeShapes Go.WideShapes Go.ChangeAt Go.RowKit Go.Sort
def beyR (l o:List Int):Nat:=(l.filter fun x=> !decide (x∈o)).length
theorem wayR_mem {L:List RsB}(hp:ParOK L): ∀(n:Nat) (i:Int), -1≤i→i<L.length→ ∀x∈wayR L n i,0≤x∧x<L.length
 |0,_,_,_,x,hx=>by simp [wayR]at hx
 |n+1,i,h0,h1,x,hx=>by
  unfold wayR at hx
  split at hx
  · simp at hx
  · rename_i hneg
    rcases List.mem_append.1 hx with h|h
    · obtain⟨k,rfl⟩: ∃k:Nat,i=k:=⟨i.toNat,by omega⟩
      have hk:k<L.length:=by omega
      rw [Int.toNat_natCast,getD_rs _ _ hk]at h;have:=hp k hk
      exact wayR_mem hp n _ this.1 (by omega) x h
    · rw [List.mem_singleton]at h;omega
def idAt (L:List RsB)(i:Int):Int:=(L.getD i.toNat zeroR).id
def bestR (L:List RsB)(tip:Int):List Int:=(wayR L L.length tip).map (idAt L)
theorem best48_any (S:Nat→Prop)(w:World)(pi:Bool)(r:RuM)(m:RcM)(la:Option Addr)(lc:Nat)(h:rssR.rel S w [.slice la m.L.length lc] m.L)(hp:ParOK m.L)(hl:m.L.length≤10000)(ht: -1≤m.tip)(ht2:m.tip<m.L.length):
   Calls Tryz.prog 33 #[.agg #[.bool pi,.int .u64 0,.int .i64 0,.slice none 0 0,.slice none 0 0,.slice none 0 0,.int .i64 r.mode,.int .i64 r.depth,.int .i64 r.bl,.int .i64 r.bu,.int .i64 r.qu,.int .u64 r.rew,.int .i64 r.win,.int .i64 r.fin,.int .u64 r.work,.slice la m.L.length lc,.int .i64 m.tip,.int .i64 m.fin]] w fun e w'=> ∃v,e= .returned v∧Own u64R w.heap.size 24 (fun k=>w.heap.size≤k) w' v (bestR m.L m.tip)∧Below w.heap.size w w':=by
 have g1:=(sliceR.lens h).2;unfold maxLen at g1;have hbA:=bnew (Below.refl w.heap.size w) (.cells #[.bool pi,.int .u64 0,.int .i64 0,.slice none 0 0,.slice none 0 0,.slice none 0 0,.int .i64 r.mode,.int .i64 r.depth,.int .i64 r.bl,.int .i64 r.bu,.int .i64 r.qu,.int .u64 r.rew,.int .i64 r.win,.int .i64 r.fin,.int .u64 r.work,.slice la m.L.length lc,.int .i64 m.tip,.int .i64 m.fin] 43);have HX:=Hd (box_new w (.cells #[.bool pi,.int .u64 0,.int .i64 0,.slice none 0 0,.slice none 0 0,.slice none 0 0,.int .i64 r.mode,.int .i64 r.depth,.int .i64 r.bl,.int .i64 r.bu,.int .i64 r.qu,.int .u64 r.rew,.int .i64 r.win,.int .i64 r.fin,.int .u64 r.work,.slice la m.L.length lc,.int .i64 m.tip,.int .i64 m.fin] 43));have H:=Hd (rssR.keepB h hbA);have HB:=Hd hbA;clear hbA h
 go_enter Tryz.func33,Tryz.ntmps33
 go_upto_region 1 with(fail)
 generalize w.alloc (.cells #[.bool pi,.int .u64 0,.int .i64 0,.slice none 0 0,.slice none 0 0,.slice none 0 0,.int .i64 r.mode,.int .i64 r.depth,.int .i64 r.bl,.int .i64 r.bu,.int .i64 r.qu,.int .u64 r.rew,.int .i64 r.win,.int .i64 r.fin,.int .u64 r.work,.slice la m.L.length lc,.int .i64 m.tip,.int .i64 m.fin] 43)=W at*;obtain⟨x0,x1⟩:=box_cells HX.out;go_wp2_with fail
 refine(way48_any S pi r m la lc hp m.L.length W m.tip ht2 ht ht2 hl H.out).mono ?_
 rintro e w1 ⟨v1,rfl,ho1,hb1⟩;obtain⟨wa,wc,rfl, -, -⟩:=own_form ho1;have HW1:=Hd ho1.slice;have HLN:=Hd (wayR_len m.L m.L.length m.tip);have HME:=Hd (wayR_mem hp m.L.length m.tip ht ht2);have HB1:=Hd (bnext HB.out hb1);have HX1:=Hd (box_after hb1 HX.out);have H1:=Hd (rssR.keepB H.out hb1);have HQ:Hid (bestR m.L m.tip=(wayR m.L m.L.length m.tip).map (idAt m.L)):=rfl;generalize wayR m.L m.L.length m.tip=l at*;clear ho1 hb1 HB HX H x0 x1;go_wp2_with fail
 go_loopw [3,5] (fun vv vi wr=> ∃k:Nat,k≤l.length∧vi= .int .i64 k∧Hid (Own u64R w1.heap.size 24 (fun x=>w1.heap.size≤x) wr vv ((l.take k).map (idAt m.L)))∧Below w1.heap.size w1 wr) (fun _ vi _=>l.length-(intOf vi).toNat)
 case atStart=>exact⟨0,Nat.zero_le _,rfl,Own.nil _ _ _ _ _,Below.refl _ _⟩
 case round=>
   obtain⟨k,hk,rfl,HO,hbr⟩:=hrel;have hll:l.length≤10000:=Nat.le_trans HLN.out hl;obtain⟨L,hL⟩: ∃L,(l.take k).map (idAt m.L)=L:=⟨_,rfl⟩
   have HTL:Hid (L.length≤10000):=by show _≤_;rw [←hL];simp;omega
   rw [hL]at HO;have HLL:=Hd hL;clear hL;obtain⟨oa,oc,rfl, -, -⟩:=own_form HO.out
   by_cases hlt:k<l.length
   · obtain⟨b2,o2,rfl, -,c0⟩:=ints_at (intsR.keepB HW1.out hbr) k hlt
     have hmem:=HME.out l[k] (List.getElem_mem hlt)
     have HTK:Hid ((l.take (k+1)).map (idAt m.L)=(l.take k).map (idAt m.L)++ [idAt m.L l[k]]):=by show _=_;rw [List.take_succ_eq_append_getElem hlt,List.map_append];rfl
     obtain⟨j,hj⟩: ∃j:Nat,l[k]=(j:Int):=⟨l[k].toNat,by omega⟩
     rw [hj]at hmem c0 HTK
     have hjl:j<m.L.length:=by omega
     have HID:Hid (idAt m.L j=m.L[j].id):=by show _=_;unfold idAt;rw [Int.toNat_natCast,getD_rs _ _ hjl]
     obtain⟨b3,o3,xa,xc,rfl, -,hb,d0,d1,d2,d3,d4,d5,d6,d7,d8⟩:=rss_at (rssR.keepB H1.out hbr) j hjl;have HIO:=Hd hb.id;rw [HID.out]at HTK;generalize m.L[j].id=y at*;obtain⟨x0,x1⟩:=box_cells (box_after hbr HX1.out)
     have i0:(0:Int)≤(k:Int):=by omega
     have i1:(k:Int)<(l.length:Int):=by omega
     have j0:(0:Int)≤(j:Int):=by omega
     have j1:(j:Int)<(m.L.length:Int):=by omega
     rw [HLL.out]at HTK;clear d0 d1 d2 d3 d4 d5 d7 d8 hb hj hmem HID;have hsz:=hbr.size;go_wp2_with fail
     go_region_law (first
       |(refine step_append_rel (r:=u64R) (base:=w1.heap.size) (v:= .slice oa L.length oc) (u:= .slice (some ⟨wr.heap.size,0,none⟩) 1 1) (S:=fun _=>False) rfl _ _ rfl Tryz.etyNums rfl rfl (HO.out.keepB (bnew (Below.refl _ _) (.cells #[.int .u64 y] 24)).drew) (Src.one (r:=u64R) (y:=y) ⟨rfl,HIO.out⟩ (CellsAt.new wr [.int .u64 y] 24)) (fun _ _ h=>h.elim) (fun _ _ h=>h) (by have:=HTL.out;unfold maxLen;simp;omega) (by have:=HTL.out;simp;omega) (Nat.le_trans hsz (bnew (Below.refl _ _) _).drew.size) ?_
         intro v2 w2 ho2 hk2 hl2
         have HO2:Hid (Own u64R w1.heap.size 24 (fun x=>w1.heap.size≤x) w2 v2 ((l.take (k+1)).map (idAt m.L))):=by
           rw [HTK.out]
           exact ho2.mono fun j _ hj=>hj.elim id fun h=>Nat.le_trans hsz (Nat.le_trans (bnew (Below.refl _ _) _).drew.size h)
         have HB2:Hid (Below w1.heap.size w1 w2):=Kept.behind (bnew hbr (.cells #[.int .u64 y] 24)).drew hk2 (Nat.le_trans hsz (bnew (Below.refl _ _) _).drew.size) (fun j hj e=>by have:=(HO.out.lt e).2.1;omega)
         clear ho2 hk2 hl2))
     all_goals
       go_wp2_with fail
       go_roundw
       case rel=>exact⟨k+1,by omega,by go_num,HO2,HB2.out⟩
       case measure=>first|(simp [intOf];done)|(simp [intOf];omega)
   · obtain rfl:k=l.length:=by omega
     have HF:=HO.out;have hq2:=HLL.out;rw [List.take_length,←HQ.out]at hq2;subst hq2;clear HO;have HFF:=Hd HF;go_wp2_with fail;go_ret
     exact⟨_,rfl,(Own.low HFF.out HB1.out.size).mono fun j _ hj=>Nat.le_trans HB1.out.size hj,bnext HB1.out hbr⟩
end Go.Proofs.YtjknlhiimmbilaaGreatDoor
