/- The chain of the program: plain values, representation in memory. -/
import Derived.Test.YtjdiofjjoefnhaaGreatDoorMPoC
set_option maxRecDepth 100000
set_option maxHeartbeats 2000000
namespace Go.Proofs.YtjdiofjjoefnhaaGreatDoor
open Tryz Go.ChangeShapes Go.WideShapes Go.ChangeAt Go.RowKit Go.Sort
structure mB where
 id:Int
 b:hV
 jy:Int
 xa:Option Addr
 xc:Nat
abbrev MY (e:mB):Value:= .agg #[e.b.parent,UZ e.b.f',e.b.hJ,e.b.work,e.b.e',.slice e.xa e.b.hQ.length e.xc,e.jy]
abbrev OJ:Value:= .agg #[U0,I0,U0,U0,U0,S0,U0]
structure k7 where
 L:List mB
 best:List Int
 final:Int
 hgt:Nat
structure p3 where
 op:Nat
 mb:Nat
 ba:Option Addr
 bc:Nat
 p:Nat
 pv:p2
def iA (L:List mB)(x:Int):Option mB:=L.find? λe=>e.id==x
def N5:hV:=⟨0,0,0,0,0,[]⟩
def wZ (L:List mB)(x:Int):hV:=((iA L x).map (·.b)).getD N5
def iG (L:List mB)(l:List Int):List hV:=l.map (wZ L)
def sk (S:UO)(p:Nat)(w:World):Prop:=
 ∃mk u j,w.heap[p]? =some (.cells #[false,U0,I0,S0,.map (some mk),.map (some u),.map (some j)] 171 (0,0))/\
  w.heap[mk]? =some (.map #[] 0)/\w.heap[u]? =some (.map #[] 0)/\w.heap[j]? =some (.map #[] 0)/\S p/\S mk/\S u/\S j
theorem sk.at' {S:UO}{p:Nat}{w:World}(h:sk S p w):r' false 0 p w:=by
 obtain⟨mk,z,y,h1,h2,j,u, -⟩:=h;exact⟨mk,z,y,h1,h2,j,u⟩
theorem r'.Sn {p:Nat}{w:World}(h:r' false 0 p w):sk (λk=>k<w.heap.size) p w:=by
 obtain⟨mk,z,y,h1,h2,j,u⟩:=h;exact⟨mk,z,y,h1,h2,j,u,ii h1,ii h2,ii j,ii u⟩
theorem sk.keep {S T:UO}{p:Nat}{w w':World}(h:sk S p w)(u:Kept T w w')(j: ∀k,S k->T k):sk S p w':=by
 obtain⟨mk,K,G,h1,h2,y,z,s1,s2,s3,s4⟩:=h;exact⟨mk,K,G,hE u h1 (j _ s1),hE u h2 (j _ s2),hE u y (j _ s3),hE u z (j _ s4),s1,s2,s3,s4⟩
theorem sk.mono {S T:UO}{p:Nat}{w:World}(h:sk S p w)(j: ∀k,S k->T k):sk T p w:=by
 obtain⟨mk,G,z,h1,h2,u,y,s1,s2,s3,s4⟩:=h;exact⟨mk,G,z,h1,h2,u,y,j _ s1,j _ s2,j _ s3,j _ s4⟩
def jG (c:Nat)(v:p3)(k:Nat):Prop:=k=c\/k=v.mb\/iw v.p v.pv k
abbrev jw (r:i4)(m:k7)(v:p3):Array Value:=
 #[.pointer (some ⟨v.op,0,none⟩),UZ r.mode,UZ r.depth,UZ r.bl,UZ r.bu,UZ r.qu,U2 r.iz,UZ r.win,UZ r.fin,U2 r.work,
  .map (some v.mb),.slice v.ba m.best.length v.bc,.pointer (some ⟨v.p,0,none⟩),U2 m.final,UZ (m.hgt:Nat)]
def nn (w:World)(mb:Nat)(L:List mB):Prop:= ∃j:kY,MapAt w mb j/\(∀x,getM j x=(iA L x).map MY)/\j.length<=L.length
structure j5 (c:Nat)(SB PI:UO)(w:World)(r:i4)(m:k7)(bs:List hV)(v:p3):Prop where
 cell:w.heap[c]? =some (.cells (jw r m v) 79 (0,0))
 Na:r.mode=2->sk SB v.op w
 map:nn w v.mb m.L
 blocks: ∀e∈m.L,i7 SB w e.b e.xa e.xc/\iZ e.id/\iZ e.jy
 best:gZ.rel SB w [.slice v.ba m.best.length v.bc] m.best
 state:jm v.p PI w r (jl r bs) v.pv
 free: ∀k,jG c v k-> ¬SB k
 Lj: ¬iw v.p v.pv c
 Li: ¬iw v.p v.pv v.mb
 pi: ∀k,PI k->k≠c/\k≠v.mb
 lt: ∀k,SB k->k<w.heap.size
section
variable {c:Nat} {SB PI:UO} {w w':World} {r:i4} {m:k7} {bs:List hV} {v:p3}
theorem nn.keep {S:UO}{mb:Nat}{L:List mB}(h:nn w mb L)(u:Kept S w w')(j:S mb):nn w' mb L:=by
 obtain⟨y,h1,h2⟩:=h;exact⟨y,h1.keep u j,h2⟩
theorem nn.c' {mb:Nat}{L:List mB}(h:nn w mb L)(j:BW w w'):nn w' mb L:=by
 obtain⟨u,h1,h2⟩:=h;exact⟨u,h1.c' j,h2⟩
theorem nn.lt {mb:Nat}{L:List mB}(h:nn w mb L):mb<w.heap.size:=by obtain⟨j,h1, -⟩:=h;exact h1.lt
theorem j5.ki (h:j5 c SB PI w r m bs v)(k:Nat)(j:jG c v k):k<w.heap.size:=by
 rcases j with rfl|rfl|e
 ·exact ii h.cell
 ·exact h.map.lt
 ·exact h.state.ki k e
theorem j5.us (h:j5 c SB PI w r m bs v):c≠v.mb:=by
 intro e;obtain⟨u,⟨es,clock,j,_⟩, -⟩:=h.map;rw [<-e,h.cell]at j;simp at j
theorem j5.keep (h:j5 c SB PI w r m bs v){S:UO}(j:Kept S w w')(u: ∀k,SB k->S k)(G: ∀k,PI k->S k)(y: ∀k,jG c v k->S k):j5 c SB PI w' r m bs v:=
 ⟨(j.block c (ii h.cell) (y c (.inl rfl))).trans h.cell,λe=>(h.Na e).keep j u,h.map.keep j (y _ (.inr (.inl rfl))),
  λe z=>⟨(h.blocks e z).1.keep (j.mono λk _=>u k),(h.blocks e z).2⟩,gZ.keep h.best (j.mono λk _=>u k),
  h.state.keep j G λk j=>y k (.inr (.inr j)),h.free,h.Lj,h.Li,h.pi,λk hi=>jg (h.lt k hi) j.size⟩
theorem j5.c' (h:j5 c SB PI w r m bs v)(j:BW w w'):j5 c SB PI w' r m bs v:=
 h.keep (Kept.of_below (S:=λk=>k<w.heap.size) j) h.lt h.state.lt h.ki
theorem j5.LD (h:j5 c SB PI w r m bs v)(j:Kept (λk=>k≠c) w w'):(r.mode=2->sk SB v.op w')/\nn w' v.mb m.L/\(∀e∈m.L,i7 SB w' e.b e.xa e.xc/\iZ e.id/\iZ e.jy)/\gZ.rel SB w' [.slice v.ba m.best.length v.bc] m.best/\jm v.p PI w' r (jl r bs) v.pv:=by
 have u: ∀k,SB k->k≠c:=λk j e=>h.free c (.inl rfl) (e▸j)
 exact⟨λe=>(h.Na e).keep j u,h.map.keep j (nB h.us),λe y=>⟨(h.blocks e y).1.keep (j.mono λk _=>u k),(h.blocks e y).2⟩,gZ.keep h.best (j.mono λk _=>u k),
  h.state.keep j (λk j=>(h.pi k j).1) λk z e=>h.Lj (e▸z)⟩
end
theorem FT (w:World):(zeroValue 81).run prog w= .ok OJ w:=by
 have j:(prog.info? 81).map (·.zero)=some (some OJ):=UQ
 obtain⟨i,hi,u⟩:=vX.1 j;simp [zeroValue,typeInfo,hi,u]
theorem Ge (u y a2 z G j:Int)(K:UP)(V U:Nat)(w:World):(Instr.field 81 (.agg #[u,UZ y,a2,z,G,.slice K V U,j]) 1).run prog w= .ok (U2 j) w:=UQ
theorem Gf (j u a2 y z V:Int)(G:UP)(U K:Nat)(w:World):(Instr.field 81 (.agg #[j,UZ u,a2,y,z,.slice G U K,V]) 0).run prog w= .ok (.agg #[j,UZ u,a2,y,z,.slice G U K]) w:=UQ
theorem nn.look {w:World}{mb:Nat}{L:List mB}(h:nn w mb L)(x:Int)(j:iZ x):(Instr.lookup 77 (.map (some mb)) (U2 x) false).run prog w= .ok (((iA L x).map MY).getD OJ) w:=by
 obtain⟨u,h1,h2, -⟩:=h;rw [h1.look underlying77 (FT w) x j,h2]
theorem nn.look_ok {w:World}{mb:Nat}{L:List mB}(h:nn w mb L)(x:Int)(j:iZ x):(Instr.lookup 77 (.map (some mb)) (U2 x) true).run prog w= .ok (.tuple #[((iA L x).map MY).getD OJ,.bool (iA L x).isSome]) w:=by
 obtain⟨u,h1,h2, -⟩:=h;rw [h1.look_ok underlying77 (FT w) x j,h2,Option.isSome_map]
theorem nn.found {w:World}{mb:Nat}{L:List mB}(h:nn w mb L)(x:Int)(u:iZ x)(e:mB)(j:iA L x=some e):(Instr.lookup 77 (.map (some mb)) (U2 x) false).run prog w= .ok (.agg #[e.b.parent,UZ e.b.f',e.b.hJ,e.b.work,e.b.e',.slice e.xa e.b.hQ.length e.xc,e.jy]) w:=by
 rw [h.look x u,j];rfl
section
variable (c:Nat) (SB PI:UO) (w:World) (r:i4) (m:k7) (bs:List hV) (v:p3)
theorem Aw (h:j5 c SB PI w r m bs v):
 Calls prog 21 #[.pointer (some ⟨c,0,none⟩)] w (Rt w (.tuple #[m.final,UZ (m.hgt:Nat)])):=by
 obtain⟨j,u⟩:=a' h.cell;simp only [jw]at j;go_wp2;go_region;go_wp2;go_ret2;exact⟨rfl,(g' _ _).drew⟩
theorem tt (h:j5 c SB PI w r m bs v):
 Calls prog 10 #[.pointer (some ⟨c,0,none⟩)] w (Rt w (.pointer (some ⟨v.p,0,none⟩))):=by
 obtain⟨j,u⟩:=a' h.cell;simp only [jw]at j;go_wp2;go_ret;exact⟨rfl,g' _ _⟩
def r4 (m:k7):Int:=m.best.getLast?.getD 0
theorem FX (h:j5 c SB PI w r m bs v)(ag:m.best.length<=100000):
 Calls prog 20 #[.pointer (some ⟨c,0,none⟩)] w (Rt w (.tuple #[(r4 m),m.best.length])):=by
 obtain⟨u,ai⟩:=a' h.cell;simp only [jw]at u;have Y:=Hd h.best;have K:Hi (r4 m=m.best.getLast?.getD 0):=rfl;clear h;obtain⟨n,j⟩:=iF (m.best.length);by_cases G:n=0
 ·have z:Hi (r4 m=0):=by show _=_;rw [K.o,T5 (j.trans G)];rfl
  rw [j]at u⊢;subst G;go_wp2;go_ret2;exact⟨by rw [z.o];rfl,g' _ _⟩
 ·obtain⟨k,V⟩: ∃k,n=k+1:=⟨n-1,UN⟩
  have hlt:k<m.best.length:=UN;have z:Hi (r4 m=m.best[k]):=Hd (by rw [K.o,Uz,z2 UN];simp [j,V]);obtain⟨ab,off,U,ad,ae⟩:=il Y.o k hlt;rw [j]at u⊢;rw [U]at u;generalize m.best[k]=y at*
  have af:k<=100000:=UN;clear G j hlt U;subst V;have ah:wrap64 (k:Int)=k:=(by unfold wrap64;omega);go_wp2;go_region;go_wp2;go_ret2;exact⟨by rw [z.o];rfl,(g' _ _).drew⟩
theorem JR (h:j5 c SB PI w r m bs v)(U:m.best.length<=100000):
 Calls prog 55 #[.pointer (some ⟨c,0,none⟩)] w λe w'=> ∃u,e= .returned u/\Own ib w.heap.size 24 (λk=>w.heap.size<=k) w' u m.best/\BW w w':=by
 obtain⟨y,K⟩:=a' h.cell;simp only [jw]at y;have z:=Hd h.best;clear h;go_in;go_wp2_with fail;refine(rG SB w v.ba v.bc m.best z.o UN).mono ?_;rintro e w1⟨u,rfl,j,hb1⟩;have G:=Hd j;clear j y K;go_wp2;go_ret;exact⟨u,rfl,G.o,hb1⟩
def oG (m:k7)(id work:Int):Bool:=
 if m.best.length=0 then true
 else decide (((iA m.L (r4 m)).map (·.jy)).getD 0<work)||(work==((iA m.L (r4 m)).map (·.jy)).getD 0)&&decide (id<r4 m)
theorem Fv (h:j5 c SB PI w r m bs v)(ay:m.best.length<=100000)(ag: ∀x∈m.best,∃e,iA m.L x=some e)(id work:Int):
 Calls prog 33 #[.pointer (some ⟨c,0,none⟩),id,work] w (Rt w (.bool (oG m id work))):=by
 obtain⟨z,aC⟩:=a' h.cell;have HC:=Hd h.cell;simp only [jw]at z;obtain⟨V,ak⟩:=ik h.best h.map;have ao:Hi (r4 m=m.best.getLast?.getD 0):=rfl;have Y:Hi (oG m id work=if m.best.length=0 then true else decide (((iA m.L (r4 m)).map (·.jy)).getD 0<work)||(work==((iA m.L (r4 m)).map (·.jy)).getD 0)&&decide (id<r4 m)):=rfl;clear h;obtain⟨n,u⟩:=iF (m.best.length);by_cases K:n=0
 ·have j:Hi (oG m id work=true):=by show _=_;rw [Y.o,g7 (u.trans K)]
  rw [u]at z;subst K;go_wp2;go_ret;exact⟨by rw [j.o];rfl,g' _ _⟩
 ·obtain⟨k,ah⟩: ∃k,n=k+1:=⟨n-1,UN⟩
  have hlt:k<m.best.length:=UN;have ae:r4 m=m.best[k]:=(by rw [ao.o,Uz,z2 UN];simp [u,ah]);obtain⟨e,U⟩:=ag m.best[k] (z3 hlt);have G:Hi (oG m id work=(decide (e.jy<work)||(work==e.jy)&&decide (id<m.best[k]))):=by
   show _=_;rw [Y.o,g3 UN,ae,U];rfl
  have ai:=mN V.o _ (z3 hlt);obtain⟨ar,off,af,au,av⟩:=il V.o k hlt;obtain⟨aj,al⟩:=ik U ai;rw [u]at z;rw [af]at z;generalize m.best[k]=y at*
  have ax:k<=100000:=UN;clear K u hlt ae U ai ag af;subst ah;have aA:wrap64 (k:Int)=k:=(by unfold wrap64;omega);go_wp2;go_region;have az:=(ak.o.c' ((Br w).drew)).found y al.o e aj.o;have aw:=Ge e.b.parent e.b.f' e.b.hJ e.b.work e.b.e' e.jy e.xa e.b.hQ.length e.xc;by_cases ab:e.jy<work
  ·have j:Hi (oG m id work=true):=by show _=_;rw [G.o,iP ab];rfl
   go_wp2;go_ret;exact⟨by rw [j.o];rfl,(g' _ _).drew⟩
  ·by_cases ad:work=e.jy
   ·subst ad
    have j:Hi (oG m id e.jy=decide (id<y)):=Hd (by rw [G.o];simp);go_wp2;go_ret;exact⟨by rw [j.o];rfl,(g' _ _).drew⟩
   ·have ap:(work==e.jy)=false:=by rw [je];exact ad
    have aq:decide (e.jy<work)=false:=iH ab;have j:Hi (oG m id work=false):=Hd (by rw [G.o,ap,aq];rfl);go_wp2;go_ret;exact⟨by rw [j.o];rfl,(g' _ _).drew⟩
end
def kd (L:List mB)(b:hV):Int:=
 if b.f'=1 then (if b.parent=0 then 0 else 18)
 else match iA L b.parent with
  |some e=>if e.b.f'=b.f'-1 then 0 else 18
  |none=>18
theorem E0 (c:Nat)(SB PI:UO)(w:World)(r:i4)(m:k7)(bs:List hV)(v:p3)(h:j5 c SB PI w r m bs v)(b:hV)(xa:UP)(xc:Nat)(ae:iZ b.parent)(hh:1<=b.f')(ay:b.f'<=1048576):
 Calls prog 28 #[.pointer (some ⟨c,0,none⟩),.agg (jI b xa xc)] w (Rt w (UZ (kd m.L b))):=by
 have ad:=jc w (.cells (jI b xa xc) 44);have af:=Hd (gY w (.cells (jI b xa xc) 44));obtain⟨HC,V,K⟩:=kT (b' ad h.cell) (h.map.c' ad) ad;have Y:Hi (kd m.L b=if b.f'=1 then (if b.parent=0 then 0 else 18)else match iA m.L b.parent with|some e=>if e.b.f'=b.f'-1 then 0 else 18|none=>18):=rfl
 clear ad h;go_in;go_upto_region 1 with(fail);generalize w.alloc (.cells (jI b xa xc) 44)=W at*;obtain⟨al,ao⟩:=a' af.o;by_cases h1:b.f'=1
 ·have av:(b.f'==1)=true:=by rw [iO];exact h1
  by_cases h2:b.parent=0
  ·have j:Hi (kd m.L b=0):=by show _=_;rw [Y.o,g7 h1,g7 h2]
   have aw:(b.parent != 0)=false:=(by rw [jt];exact h2);clear h1 h2;go_wp2;go_ret;exact⟨g2 j.o.symm,K.o⟩
  ·have j:Hi (kd m.L b=18):=by show _=_;rw [Y.o,g7 h1,g3 h2]
   have aw:(b.parent != 0)=true:=(by rw [iB];exact h2);clear h1 h2;go_wp2;go_ret;exact⟨g2 j.o.symm,K.o⟩
 ·have av:(b.f'==1)=false:=by rw [je];exact h1
  have ab:=Hd (Y.o.trans (g3 h1));have az:wrap64 (b.f'-1)=b.f'-1:=(by unfold wrap64;omega);clear Y;obtain⟨ap,au⟩:=a' HC.o;simp only [jw]at ap;have aq:=λo'=>(a' (iq (o':=o') HC.o)).1;have ar:=λo'=>(a' (iq (o':=o') af.o)).1;simp only [jw]at aq
  cases u:iA m.L b.parent with
  |none=>
   have j:Hi (kd m.L b=18):=Hd (by rw [ab.o,u]);have y:=(V.o.c' ((Br W).drew)).look_ok b.parent ae;have z:=λo=>(V.o.c' ((jc W o).drew)).look_ok b.parent ae;rw [u]at y;simp only [u]at z;have aj:(Instr.lookup 77 (.map (some v.mb)) (U2 b.parent) true).run prog W.drew= .ok (.tuple #[.agg #[U0,I0,U0,U0,U0,S0,U0],false]) W.drew:=y;have ak: ∀o,(Instr.lookup 77 (.map (some v.mb)) (U2 b.parent) true).run prog (W.alloc o).drew= .ok (.tuple #[.agg #[U0,I0,U0,U0,U0,S0,U0],false]) (W.alloc o).drew:=z;clear y z u ab;go_upto_region 5 with(fail);go_cut [5,6]from 7 (λag ah wc=> ∃q,ag= .pointer (some ⟨q,0,none⟩)/\ah= .bool false/\Hi (BW W wc))
   case first=>
    go_region
    all_goals
     go_wp2;go_meet
     case rel=>exact⟨_,rfl,rfl,(hd (g' _ _) _).drew⟩
   case rest=>
    obtain⟨q,rfl,rfl,U⟩:=hcut;go_wp2;go_ret;exact⟨g2 j.o.symm,d' K.o U.o⟩
  |some e=>
   have y:=(V.o.c' ((Br W).drew)).look_ok b.parent ae;have z:=λo=>(V.o.c' ((jc W o).drew)).look_ok b.parent ae;rw [u]at y;simp only [u]at z;have aj:(Instr.lookup 77 (.map (some v.mb)) (U2 b.parent) true).run prog W.drew= .ok (.tuple #[.agg #[e.b.parent,UZ e.b.f',e.b.hJ,e.b.work,e.b.e',.slice e.xa e.b.hQ.length e.xc,e.jy],true]) W.drew:=y;have ak: ∀o,(Instr.lookup 77 (.map (some v.mb)) (U2 b.parent) true).run prog (W.alloc o).drew= .ok (.tuple #[.agg #[e.b.parent,UZ e.b.f',e.b.hJ,e.b.work,e.b.e',.slice e.xa e.b.hQ.length e.xc,e.jy],true]) (W.alloc o).drew:=z;have ai:Hi (kd m.L b=if e.b.f'=b.f'-1 then 0 else 18):=Hd (by rw [ab.o,u]);clear y z u ab;go_upto_region 5 with(fail);go_cut [5,6]from 7 (λag ah wc=> ∃q,ag= .pointer (some ⟨q,0,none⟩)/\ah= .bool true/\Hi (wc.heap[q]? =some (.cells #[e.b.parent,UZ e.b.f',e.b.hJ,e.b.work,e.b.e',.slice e.xa e.b.hQ.length e.xc,e.jy] 81 (0,0)))/\Hi (BW W wc))
   case first=>
    go_region
    all_goals
     have HQ:Hi ((W.alloc (.cells #[e.b.parent,UZ e.b.f',e.b.hJ,e.b.work,e.b.e',.slice e.xa e.b.hQ.length e.xc,e.jy] 81)).drew.heap[W.heap.size]? =some (.cells #[e.b.parent,UZ e.b.f',e.b.hJ,e.b.work,e.b.e',.slice e.xa e.b.hQ.length e.xc,e.jy] 81 (0,0))):=gY W _;go_wp2;go_meet
     case rel=>exact⟨_,rfl,rfl,HQ,(hd (g' _ _) _).drew⟩
   case rest=>
    obtain⟨q,rfl,rfl,HQ,U⟩:=hcut;clear al ao ap au ar aq aj ak;obtain⟨al,ao⟩:=a' (b' U.o af.o);obtain⟨aA,q1⟩:=a' HQ.o;by_cases G:e.b.f'=b.f'-1
    ·have j:=Hd (ai.o.trans (g7 G))
     have ax:(e.b.f' != b.f'-1)=false:=(by rw [jt];exact G);clear G;go_wp2;go_ret;exact⟨g2 j.o.symm,d' K.o U.o⟩
    ·have j:=Hd (ai.o.trans (g3 G))
     have ax:(e.b.f' != b.f'-1)=true:=(by rw [iB];exact G);clear G;go_wp2;go_ret;exact⟨g2 j.o.symm,d' K.o U.o⟩
def lW (L:List mB)(l:List Int):Prop:= ∀(k:Nat) (h:k<l.length),∃e,iA L l[k]=some e/\e.b.f'=k+1/\(0<k->e.b.parent=l.getD (k-1) 0)
def OH (l:List Int)(w:World)(e:Ending)(w':World):Prop:= ∃u,e= .returned u/\Own ib w.heap.size 24 (λk=>False\/w.heap.size<=k) w' u l/\BW w w'
abbrev yh (w:World)(q:Nat):Nat:=match w.cell? ⟨q,1,none⟩with
 |some (.int _ h)=>h.toNat
 |_=>0
theorem Fu (c:Nat)(SB PI:UO)(w:World)(r:i4)(m:k7)(bs:List hV)(v:p3)(h:j5 c SB PI w r m bs v)(b:hV)(xa:UP)(xc:Nat)(a0:iZ b.parent)(n:Nat)(aX:b.f'=n+1)(bO:n<=100000)(l:List Int)(hw:lW m.L l)(aV:l.length=n)(hlast:0<n->b.parent=l.getD (n-1) 0):
 Calls prog 29 #[.pointer (some ⟨c,0,none⟩),.agg (jI b xa xc)] w (OH l w):=by
 have al:=jc w (.cells (jI b xa xc) 44);have aJ:=Hd (gY w (.cells (jI b xa xc) 44));obtain⟨HC,a4⟩:=ik (h.c' al) al;have K:Hi ((w.alloc (.cells (jI b xa xc) 44)).heap.size=w.heap.size+1):=U4 ..;obtain⟨bk,a9,bj⟩:=kT hw hlast a0;have aP:=h.ki;have aA:=Hd aP;have hlt:=h.lt;have bG:=Hd hlt;have av:wrap64 (b.f'-1)=(n:Int):=by unfold wrap64;omega
 have aw:IntKind.i64.wrap (b.f'-1)=(n:Int):=by rw [rX];omega
 obtain⟨a8,ai,bH⟩:=kT aX aV h.us;clear al h hw hlast a0 aP hlt aX aV;go_in;go_upto_region 1 with(fail);generalize w.alloc (.cells (jI b xa xc) 44)=W at*;obtain⟨U,V⟩:=a' aJ.o;go_wp2_with (at_make;refine n8 rfl _ _ rfl iX (z:= U0) UQ (n:=n) rfl rfl (by first|rfl|exact av|exact aw) (by first|rfl|exact av|exact aw) ?_ ?_ ?_)
 ·omega
 ·unfold maxLen;omega
 rw [Bf];have bf:Hi (Own ib w.heap.size 24 (λx=>False\/W.heap.size<=x) (W.alloc (.cells (ni [] n).toArray 24)) (.slice (some ⟨W.heap.size,0,none⟩) n n) (List.replicate n 0)):=by
  have:=nr (k:= .u64) (base:=W.heap.size) (e:=24) (xs:=List.replicate n (0:Int)) (cap:=n) (cur:=ni [] n) (gY W (.cells (ni [] n).toArray 24)) (by simp [ni]) (by simp [ni]) (λx bB=>by rw [List.eq_of_mem_replicate bB];exact ir UN UN) US (by unfold maxLen;omega) (g9 _);rw [List.length_replicate]at this;obtain⟨S,css,h1,h2,aM,aN,G⟩:=this;refine⟨S,css,h1,h2,aM,aN,G.1,?_⟩;rcases G.2 with ak|⟨g,cap,cur,ak,bK,br⟩
  ·exact .inl ak
  ·exact .inr ⟨g,cap,cur,ak,by have:=K.o;omega,br⟩
 have bn:=Hd (iq (o':= .cells (ni [] n).toArray 24) aJ.o);have a5:=Hd (jc W (.cells (ni [] n).toArray 24));have bI:Hi ((W.alloc (.cells (ni [] n).toArray 24)).heap.size=W.heap.size+1):=U4 ..;generalize W.alloc (.cells (ni [] n).toArray 24)=bJ at*;clear U V av aw;go_wp2;go_loopw [10] (λ_ wr=> ∃(j:Nat) (u:hV) (ax:UP) (ay:Nat) (x:List Int),Hi (u.f'=j+1)/\j<=n/\Hi (0<j->u.parent=l.getD (j-1) 0)/\Hi (iZ u.parent)/\Hi (wr.heap[w.heap.size]? =some (.cells (jI u ax ay) 44 (0,0)))/\Hi (Own ib w.heap.size 24 (λx=>False\/W.heap.size<=x) wr (.slice (some ⟨W.heap.size,0,none⟩) n n) x)/\Hi (x.length=n)/\Hi (∀i,j<=i->x.getD i 0=l.getD i 0)/\Hi (Kept (λk=>k<w.heap.size) W wr)) (λ_ wr=>yh wr w.heap.size)
 case atStart=>exact⟨n,b,xa,xc,List.replicate n 0,a8,g9 _,a9,bj,bn,bf,by show _=_;simp,λi hi=>by rw [U5,U5,TA (by simp;omega),TA (by rw [ai.o];omega)],Kept.of_below a5.o |>.mono λk _ h=>by have aL:k<w.heap.size:=h;have:=K.o;omega⟩
 case round=>
  obtain⟨j,u,ax,ay,x,ag,bM,bi,aH,Y,aI,aj,aK,aE⟩:=hrel;have aW:yh wr w.heap.size=j+1:=by
   show(match wr.cell? ⟨w.heap.size,1,none⟩with|some (.int _ h)=>h.toNat|_=>0)=_
   rw [(a' Y.o).1];show u.f'.toNat=_;rw [ag.o];omega
  have be:=Hd aW;clear aW
  cases j with
  |zero=>
   have h1:u.f'=1:=(by rw [ag.o];rfl);have aU:decide (1<u.f')=false:=iH UN;have bC:x=l:=by
    apply List.ext_getElem?;intro i;have h2:=aK.o i (iy _);rw [U5,U5]at h2;have aM:=aj.o;have aN:=ai.o;rcases kZ i n with G|G
    ·rw [z2 UN,z2 UN]at h2⊢
     simpa using h2
    ·rw [TA UN,TA UN]
   subst bC;obtain⟨U,V⟩:=a' Y.o;clear h1;go_wp2;go_ret;refine⟨_,rfl,aI.o.mono λk _ h=> ?_,?_⟩
   ·rcases h with h|h
    ·exact .inl h
    ·exact .inr (by have:=K.o;omega)
   ·have bq:Kept (λk=>k<w.heap.size) w W:=Kept.of_below a4.o
    exact(bq.trans aE.o λ_ _ h=>h).below (g9 _)
  |succ j=>
   have hh:u.f'=(j:Int)+2:=(by rw [ag.o];push_cast;omega);have aq:j<l.length:=(by rw [ai.o];omega);have ao:u.parent=l[j]:=by
    rw [bi.o UN,qT,U5,z2 aq];rfl
   obtain⟨e,ap,aQ,aT⟩:=bk.o j aq;rw [<-ao]at ap;obtain⟨aD,aC,a7⟩:=kT ap aQ aT;have a3:j<x.length:=(by rw [aj.o];omega);obtain⟨g,cap,a2,bt, -,bx,bw,hcell,bv,a1⟩:=aI.o.pP j a3;simp only [mJ,pd,qd,and_true]at a2;obtain⟨rfl, -,rfl⟩:=a2;obtain⟨aY,ar⟩:=a1 u.parent aH.o;have bg:=Hd aY;have ah:Hi (Kept (λk=>k<w.heap.size) W (wr.setCell ⟨W.heap.size,j,none⟩ (U2 u.parent))):=aE.o.trans ar λk _ h=>(by have aL:k<w.heap.size:=h;have:=K.o;show k≠_;omega);have az:=Hd (hE ar Y.o (show w.heap.size≠W.heap.size by have:=K.o;omega));obtain⟨U,V⟩:=a' Y.o;have aU:decide (1<u.f')=true:=iP UN;have bz:wrap64 (u.f'-2)=(j:Int):=(by unfold wrap64;omega);have bA:IntKind.i64.wrap (j:Int)=j:=(by rw [rX];omega);have bD:(0:Int)<=(j:Int):=UN;have bE:(j:Int)<(n:Int):=UN;have bp:Hi ((x.set j u.parent).length=n):=Hd (by rw [TG,aj.o]);have bo:Hi (∀i,j<=i->(x.set j u.parent).getD i 0=l.getD i 0):=λi hi=>by
    rcases kZ j i with G|G
    ·rw [<-aK.o i G,U5,U5,List.getElem?_set_ne UN]
    ·obtain rfl:i=j:=UN
     rw [U5,List.getElem?_set_self a3,U5,z2 aq,ao]
   clear hh ap aQ aT ao a1 aY ar bt bx bw;go_upto_region 4 with(fail);generalize wr.setCell ⟨W.heap.size,j,none⟩ (U2 u.parent)=y at*;clear U V aU bz bA bD bE hcell bv;have a6:=Hd (hE ah.o HC.o.cell (aA.o c (.inl rfl)));have bb:=Hd (HC.o.map.keep ah.o (aA.o v.mb (.inr (.inl rfl))));have aO:BW y y.drew:=(g' _ _).drew;have bN:=(bb.o.c' aO).found u.parent aH.o e aD.o;have bL:=Gf e.b.parent e.b.f' e.b.hJ e.b.work e.b.e' e.jy e.xa e.b.hQ.length e.xc;obtain⟨U,V⟩:=a' az.o;obtain⟨bF,bP⟩:=a' a6.o;simp only [jw]at bF;have au:=i2 y (q:=w.heap.size) (S:=λk=>k≠w.heap.size) (λh=>h rfl) [e.b.parent,UZ e.b.f',e.b.hJ,e.b.work,e.b.e',.slice e.xa e.b.hQ.length e.xc] 0;have ab:Below (y.setCells w.heap.size 0 [e.b.parent,UZ e.b.f',e.b.hJ,e.b.work,e.b.e',.slice e.xa e.b.hQ.length e.xc]).heap.size (y.setCells w.heap.size 0 [e.b.parent,UZ e.b.f',e.b.hJ,e.b.work,e.b.e',.slice e.xa e.b.hQ.length e.xc]) (y.setCells w.heap.size 0 [e.b.parent,UZ e.b.f',e.b.hJ,e.b.work,e.b.e',.slice e.xa e.b.hQ.length e.xc]).drew:=(g' _ _).drew;have af:=Hd (b' ab (j3 (old:= [U2 u.parent,UZ u.f',U2 u.hJ,U2 u.work,U2 u.e',.slice ax u.hQ.length ay]) az.o [e.b.parent,UZ e.b.f',e.b.hJ,e.b.work,e.b.e',.slice e.xa e.b.hQ.length e.xc] rfl));have aF:Hi (Kept (λk=>k<w.heap.size) W (y.setCells w.heap.size 0 [e.b.parent,UZ e.b.f',e.b.hJ,e.b.work,e.b.e',.slice e.xa e.b.hQ.length e.xc]).drew):=(ah.o.trans au λk _ h=>by have aL:k<w.heap.size:=h;show k≠_;omega).trans (Kept.of_below ab) λ_ _ h=>h;have aG:=Hd (Own.c' (bg.o.keep (au.mono λk _ h=>by rcases h with h|h;exact h.elim;have:=K.o;show k≠_;omega)) ab)
   have aZ:iZ e.b.parent:=(HC.o.blocks e (List.mem_of_find?_eq_some aD.o)).1.parent;have bh:=Hd aZ;obtain⟨ae,ad⟩: ∃ae,ae=(y.setCells w.heap.size 0 [e.b.parent,UZ e.b.f',e.b.hJ,e.b.work,e.b.e',.slice e.xa e.b.hQ.length e.xc]).drew:=⟨_,rfl⟩;rw [<-ad]at af aF aG;simp only [World.setCells,Nat.reduceAdd,nC]at ad;have bm:=Hd ad;clear au aO ab ad aZ;go_region;go_wp2_with fail;rw [<-bm.o];go_roundw
   case rel=>exact⟨j,e.b,e.xa,e.xc,x.set j u.parent,aC,UN,a7,bh,af,aG,bp,bo,aF⟩
   case measure=>
    have h1:yh ae w.heap.size=j+1:=by
     show(match ae.cell? ⟨w.heap.size,1,none⟩with|some (.int _ h)=>h.toNat|_=>0)=_
     rw [(a' af.o).1];show e.b.f'.toNat=_;rw [aC.o];omega
    rw [h1,be.o];omega
def wV (r:i4)(m:k7):k7:=
 if 1<=(m.best.length:Int)-r.fin/\(m.hgt:Int)<(m.best.length:Int)-r.fin then ⟨m.L,m.best,m.best.getD (((m.best.length:Int)-r.fin).toNat-1) 0,((m.best.length:Int)-r.fin).toNat⟩else m
theorem j5.I6 {c:Nat}{SB PI:UO}{w:World}{r:i4}{m:k7}{bs:List hV}{v:p3}(h:j5 c SB PI w r m bs v)(f:Int)(n:Nat):
 j5 c SB PI ((w.setCell ⟨c,13,none⟩ (U2 f)).setCell ⟨c,14,none⟩ (UZ n)) r ⟨m.L,m.best,f,n⟩ bs v/\Kept (λk=>k≠c) w ((w.setCell ⟨c,13,none⟩ (U2 f)).setCell ⟨c,14,none⟩ (UZ n)):=by
 have j:Kept (λk=>k≠c) w ((w.setCell ⟨c,13,none⟩ (U2 f)).setCell ⟨c,14,none⟩ (UZ n)):=(h9 w c 13 _).trans (h9 _ c 14 _) λ_ _ h=>h;obtain⟨h1,h2,u,y,z⟩:=h.LD j;exact⟨⟨h6 (h6 h.cell),h1,h2,u,y,z,h.free,h.Lj,h.Li,h.pi,λk hi=>jg (h.lt k hi) j.size⟩,j⟩
theorem Fd (c:Nat)(SB PI:UO)(w:World)(r:i4)(m:k7)(bs:List hV)(v:p3)(h:j5 c SB PI w r m bs v)(au:1<=r.fin)(av:r.fin<=1048576)(ax:m.best.length<=100000):
 Calls prog 35 #[.pointer (some ⟨c,0,none⟩)] w λe w'=>e= .returned (.tuple #[])/\j5 c SB PI w' r (wV r m) bs v/\Kept (λk=>k≠c) w w':=by
 have H:=Hd h;have z:=g0 h.cell;simp only [jw]at z;have G:Hi (wV r m=if 1<=(m.best.length:Int)-r.fin/\(m.hgt:Int)<(m.best.length:Int)-r.fin then ⟨m.L,m.best,m.best.getD (((m.best.length:Int)-r.fin).toNat-1) 0,((m.best.length:Int)-r.fin).toNat⟩else m):=rfl;have aj:wrap64 ((m.best.length:Int)-r.fin)=(m.best.length:Int)-r.fin:=by unfold wrap64;omega
 clear h;go_wp2;refine m6 ?_
 repeat (first|go_big_quiet_step (fail)|quiet_step (fail))
 refine lz ?_;intro w1 U;clear z;have u:=Hd (H.o.c' U);have K:Hi (Kept (λk=>k≠c) w w1):=Kept.of_below U;clear U aj;obtain⟨hh,V⟩:=iF ((m.best.length:Int)-r.fin);rw [V]at G⊢;have ah:=Hd V;clear V;obtain⟨z,aA⟩:=a' u.o.cell;simp only [jw]at z;by_cases c1:1<=hh
 ·by_cases c2:(m.hgt:Int)<hh
  ·have j:=Hd (G.o.trans (g7 ⟨c1,c2⟩))
   obtain⟨k,ao⟩: ∃k:Nat,hh=(k:Int)+1:=⟨(hh-1).toNat,UN⟩;have hlt:k<m.best.length:=(by have:=ah.o;omega);obtain⟨ap,off,ab,aq,ak,al,ar⟩:=il u.o.best k hlt;have ad:m.best.getD (hh.toNat-1) 0=m.best[k]:=by
    have:hh.toNat-1=k:=UN;rw [this,U5,z2 hlt];rfl
   have af:hh.toNat=k+1:=UN;rw [ad,af]at j;obtain⟨Y,ae⟩:=u.o.I6 m.best[k] (k+1);have ag:=Hd Y
   have ai:=Hd (K.o.trans ae λ_ _ h=>h);clear Y ae ad af;generalize m.best[k]=y at*;rw [ab]at z;subst ao;have ay:wrap64 ((k:Int)+1-1)=(k:Int):=(by unfold wrap64;omega);have az:wrap64 (k:Int)=(k:Int):=(by unfold wrap64;omega);have aw:(k:Int)<(m.best.length:Int):=UN;clear ab hlt ak al;go_wp2;go_end0;rw [j.o];exact⟨rfl,ag.o,ai.o⟩
  ·have j:=Hd (G.o.trans (g3 λh=>c2 h.2))
   go_wp2;go_end0;rw [j.o];exact⟨rfl,u.o,K.o⟩
 ·have j:=Hd (G.o.trans (g3 λh=>c1 h.1))
  go_wp2;go_end0;rw [j.o];exact⟨rfl,u.o,K.o⟩
structure lq (c:Nat)(SB PI:UO)(v:p3)(w:World)(vf ob:UO)(v':p3)(w':World):Prop where
 kept:Kept (λk=> ¬jG c v k) w w'
 turn: ∀k,jG c v' k->jG c v k\/w.heap.size<=k
 sb: ∀k,SB k->vf k
 M': ∀k,vf k->SB k\/w.heap.size<=k
 MZ: ∀k,ob k->PI k\/jG c v k\/w.heap.size<=k
theorem lq.refl (c:Nat)(SB PI:UO)(v:p3)(w:World):lq c SB PI v w SB PI v w:=⟨Kept.refl _ _,λ_ h=> .inl h,λ_ h=>h,λ_ h=> .inl h,λ_ h=> .inl h⟩
theorem lq.trans {c:Nat}{SB PI K z U G:UO}{v v1 v2:p3}{w w1 w2:World}(h:lq c SB PI v w K z v1 w1)(j:lq c K z v1 w1 U G v2 w2):lq c SB PI v w U G v2 w2:=by
 have ab:=h.kept.size;refine⟨h.kept.trans j.kept λk Y V u=> ?_,λk u=> ?_,λk y=>j.sb k (h.sb k y),λk y=> ?_,λk hi=> ?_⟩
 ·rcases h.turn k u with h1|h1
  ·exact V h1
  ·omega
 ·rcases j.turn k u with h1|h1
  ·exact h.turn k h1
  ·exact .inr UN
 ·rcases j.M' k y with h1|h1
  ·exact h.M' k h1
  ·exact .inr UN
 ·rcases j.MZ k hi with h1|h1|h1
  ·exact h.MZ k h1
  ·rcases h.turn k h1 with h2|h2
   ·exact .inr (.inl h2)
   ·exact .inr (.inr h2)
  ·exact .inr (.inr UN)
theorem lq.below {c:Nat}{SB PI:UO}{v:p3}{w w':World}(j:BW w w'):lq c SB PI v w SB PI v w':=⟨Kept.of_below j,λ_ h=> .inl h,λ_ h=>h,λ_ h=> .inl h,λ_ h=> .inl h⟩
theorem j5.FK {c:Nat}{SB PI:UO}{w w':World}{r:i4}{m:k7}{bs V:List hV}{v:p3}(h:j5 c SB PI w r m bs v)(af:xy v.p PI v.pv w r (jl r V) w'):
 ∃(ob:UO) (K:p2),j5 c SB ob w' r m V { v with pv:=K }/\lq c SB PI v w SB ob { v with pv:=K } w':=by
 obtain⟨ob,K,ab,j,ht,hi⟩:=af;have y: ∀k,SB k-> ¬iw v.p v.pv k:=λk j u=>h.free k (.inr (.inr u)) j;have ad:=ii h.cell;have u:=h.map.lt;refine⟨ob,K,⟨(j.block c ad h.Lj).trans h.cell,λe=>(h.Na e).keep j y,h.map.keep j h.Li,λe Y=>⟨(h.blocks e Y).1.keep (j.mono λk _=>y k),(h.blocks e Y).2⟩,gZ.keep h.best (j.mono λk _=>y k),ab,?_,?_,?_,?_,λk y=>jg (h.lt k y) j.size⟩,j.mono λk _ ae u=>ae (.inr (.inr u)),?_,λ_ h=>h,λ_ h=> .inl h,?_⟩
 ·intro k u G
  rcases u with e|e|e
  ·exact h.free k (.inl e) G
  ·exact h.free k (.inr (.inl e)) G
  ·rcases ht k e with h1|h1
   ·exact y k G h1
   ·have:=h.lt k G;omega
 ·intro z
  rcases ht c z with h1|h1
  ·exact h.Lj h1
  ·omega
 ·intro z
  rcases ht v.mb z with h1|h1
  ·exact h.Li h1
  ·omega
 ·intro k U
  rcases hi k U with h1|h1|h1
  ·exact h.pi k h1
  ·exact⟨λe=>h.Lj (e▸h1),λe=>h.Li (e▸h1)⟩
  ·exact⟨UN,by show k≠v.mb;omega⟩
 ·intro k z
  rcases z with e|e|e
  ·exact .inl (.inl e)
  ·exact .inl (.inr (.inl e))
  ·rcases ht k e with h1|h1
   ·exact .inl (.inr (.inr h1))
   ·exact .inr h1
 ·intro k U
  rcases hi k U with h1|h1|h1
  ·exact .inl h1
  ·exact .inr (.inl (.inr (.inr h1)))
  ·exact .inr (.inr h1)
def LW (c:Nat)(SB PI:UO)(v:p3)(w:World)(r:i4)(m:k7)(u:List hV)(w':World):Prop:=
 ∃(ob:UO) (j:p2),j5 c SB ob w' r m u { v with pv:=j }/\lq c SB PI v w SB ob { v with pv:=j } w'
theorem Jo (c:Nat) (SB PI:UO) (w:World) (r:i4) (hr:oo r) (m:k7) (pre u z:List hV) (v:p3) (h:j5 c SB PI w r m (pre++u) v) (aN:j6 r (pre++u)) (aO:j6 r (pre++z)) (aK:(pre++u).length<=200) (aL:(pre++z).length<=200)
 (bf:UP) (bg:Nat) (S:UO) (ta:UP) (tc:Nat) (K:List Int) (aV:gZ.rel S w [.slice ta K.length tc] K) (ar: ∀k,S k-> ¬jG c v k) (aM:K.length=z.length) (aG: ∀(k:Nat) (af:k<K.length) (bA:k<z.length),∃e∈m.L,iA m.L K[k]=some e/\e.b=z[k]):
 Calls prog 31 #[.pointer (some ⟨c,0,none⟩),.slice bf u.length bg,.slice ta K.length tc] w λe w'=>e= .returned (.tuple #[])/\LW c SB PI v w r m (pre++z) w':=by
 obtain⟨H,ay,a6,ax,a3,a4,a2⟩:=OT h aV ar hr aN aO aG
 have bz:u.length<=200:=by rw [U3]at aK;omega
 have bB:K.length<=200:=by rw [U3]at aL;omega
 have bv:Hi (∀k,S k->k<w.heap.size-> ¬jG c v k):=λk af _=>ar k af;have al:=Hd aM;clear h aV ar hr aN aO aG aM;go_wp2;go_loopw [10] (λae wr=> ∃(i:Nat) (ob:UO) (Y:p2),i<=u.length/\ae= UZ i/\Hi (j5 c SB ob wr r m (pre++u.take (u.length-i)) { v with pv:=Y })/\Hi (lq c SB PI v w SB ob { v with pv:=Y } wr)) (λae _=>u.length-(intOf ae).toNat)
 case atStart=>exact⟨0,PI,v.pv,iy _,rfl,by rw [Nat.sub_zero,Sw];exact H,lq.refl _ _ _ _ _⟩
 case round=>
  obtain⟨i,ob,Y,hi,rfl,G,U⟩:=hrel;by_cases hlt:i<u.length
  ·obtain⟨j,aH⟩: ∃j,u.length-i=j+1:=⟨u.length-i-1,UN⟩
   have aJ:j<u.length:=UN;have ab:pre++u.take (j+1)=(pre++u.take j)++ [u[j]]:=(by rw [z4 aJ,Tt]);have ai:j6 r ((pre++u.take j)++ [u[j]]):=by
    have:=a3.o.take (pre.length+(j+1));rw [List.take_length_add_append,ab]at this;exact this
   rw [aH,ab]at G;have ap:=Hd ai;have ah:(pre++u.take j).length<=200:=(by rw [U3]at aK;rw [U3,Tq];omega);have ao:=Hd ah;have aI:u.length-(i+1)=j:=UN;generalize u[j]=bq at*;obtain⟨aj,bt⟩:=a' G.o.cell;simp only [jw]at aj;clear ai ab ah aH;go_wp2_with fail;refine UR (IR v.p ob wr r ax.o (pre++u.take j) bq ap.o ao.o Y G.o.state) λw2 ag=> ?_;obtain⟨V,ad,az,aT⟩:=G.o.FK ag;have aY:Hi (j5 c SB V w2 r m (pre++u.take (u.length-(i+1))) { v with pv:=ad }):=(by rw [aI];exact az);have a7:Hi (lq c SB PI v w SB V { v with pv:=ad } w2):=U.o.trans aT;clear ag az aT aj bt aI aJ;go_wp2;go_roundw
   case rel=>exact⟨i+1,V,ad,UN,by go_num,aY,a7⟩
   case measure=>exact UY
  ·obtain rfl:i=u.length:=UN
   rw [sp,U6,T2]at G;clear hlt hi;go_wp2_with fail;have be:=Hd U;go_loopw [20] (λae wr=> ∃(i:Nat) (ob:UO) (Y:p2),i<=K.length/\ae= UZ i/\Hi (j5 c SB ob wr r m (pre++z.take i) { v with pv:=Y })/\Hi (lq c SB PI v w SB ob { v with pv:=Y } wr)) (λae _=>K.length-(intOf ae).toNat)
   case atStart=>exact⟨0,ob,Y,iy _,rfl,by rw [U6,T2];exact G,U⟩
   case round=>
    clear G U be;obtain⟨i,V,ad,hi,rfl,G,U⟩:=hrel;by_cases hlt:i<K.length
    ·have aW:=gZ.keep ay.o (U.o.kept.mono λk _ af=>a6.o k af)
     obtain⟨bw,off,bp,bh,bx⟩:=il aW i hlt;subst bp;have hlt2:i<z.length:=(by have:=al.o;omega);obtain⟨e,aF,bj,aE⟩:=a2.o i hlt hlt2;have aP:=mN ay.o _ (z3 hlt);have ab:pre++z.take (i+1)=(pre++z.take i)++ [e.b]:=(by rw [z4 hlt2,Tt,aE]);have ai:j6 r ((pre++z.take i)++ [e.b]):=by
      have:=a4.o.take (pre.length+(i+1));rw [List.take_length_add_append,ab]at this;exact this
     obtain⟨ap,bb⟩:=ik ai ab;have ah:(pre++z.take i).length<=200:=(by have:=al.o;rw [U3]at aL;rw [U3,Tq];omega);obtain⟨ao,a0,bo⟩:=kT ah aF aP;generalize K[i]=y at*
     have bm: ∀(d:Nat) (os:Array Obj),(Instr.lookup 77 (.map (some v.mb)) (U2 y) false).run prog (grow (redrawn wr d) os)= .ok (.agg #[e.b.parent,UZ e.b.f',e.b.hJ,e.b.work,e.b.e',.slice e.xa e.b.hQ.length e.xc,e.jy]) (grow (redrawn wr d) os):=λd os=>(G.o.map.c' (lm wr d os)).found y bo.o e bj;have bk:=Gf e.b.parent e.b.f' e.b.hJ e.b.work e.b.e' e.jy e.xa e.b.hQ.length e.xc;have aj:=g0 G.o.cell;simp only [jw]at aj;clear aP ai ab ah aF aE hlt2 aW bh;go_wp2_with fail;refine hI 11 UQ UQ ?_;simp only [Tr,U6,Ty,Tg]
     repeat (first|go_big_quiet_step (fail)|quiet_step (fail))
     refine lz ?_;intro br au;clear aj bm;have ak:=Hd (G.o.c' au);have a9:=Hd (U.o.trans (lq.below (SB:=SB) (PI:=V) au));obtain⟨aQ,aD,aC⟩:=ap.o.last;have aw:=Hd aC;have bi:=aD.hQ;have a5:=Hd aQ;clear au aQ aD aC bk;go_wp2_with fail;refine UR (AF v.p V br r ax.o (pre++z.take i) a5.o ao.o ad ak.o.state SB e.b e.xa e.xc (ak.o.blocks e a0.o).1 bi (λk af bn=>ak.o.free k (.inr (.inr bn)) af)) λaX ag=> ?_;rw [Et aw.o,<-l5]at ag;obtain⟨aq,av,aA,aU⟩:=ak.o.FK ag;have aZ:Hi (j5 c SB aq aX r m (pre++z.take (i+1)) { v with pv:=av }):=(by rw [bb.o];exact aA);have a8:Hi (lq c SB PI v w SB aq { v with pv:=av } aX):=a9.o.trans aU;rw [aw.o];clear ag aA aU;go_wp2;go_roundw
     case rel=>exact⟨i+1,aq,av,UN,by go_num,aZ,a8⟩
     case measure=>exact UY
    ·obtain rfl:i=K.length:=UN
     have a1:Hi (j5 c SB V wr r m (pre++z) { v with pv:=ad }):=by
      have:=G.o;rw [al.o,Sw]at this;exact this
     clear hlt hi;go_wp2;go_end0;exact⟨rfl,V,ad,a1.o,U.o⟩
end Go.Proofs.YtjdiofjjoefnhaaGreatDoor
