/- The reference's chain: representation; Name, Find. -/
import Derived.Test.YtjdiofjjoefnhaaGreatDoorMLw
set_option maxRecDepth 100000
set_option maxHeartbeats 2000000
namespace Go.Proofs.YtjdiofjjoefnhaaGreatDoor
open Tryz Go.ChangeShapes Go.WideShapes Go.ChangeAt Go.RowKit Go.Sort
structure qb where
 b:hV
 id:Int
 par:Int
 jy:Int
def p4:kS qb:=zj (λs=>(s.b,s.id,s.par,s.jy)) (jB nO (jB ib (jB (j9 .i64) ib)))
theorem p4.n:p4.n=9:=rfl
structure w8 (S:UO)(w:World)(s:qb)(xa:UP)(xc:Nat):Prop where
 blk:i7 S w s.b xa xc
 id:iZ s.id
 par:zf s.par
 jy:iZ s.jy
theorem nO.mk {S:UO}{w:World}{b:hV}{xa:UP}{xc:Nat}(h:i7 S w b xa xc):
 nO.rel S w [b.parent,UZ b.f',b.hJ,b.work,b.e',.slice xa b.hQ.length xc] b:=
 ⟨[_],_,rfl,⟨rfl,h.parent⟩,[_],_,rfl,⟨rfl,h.f'⟩,[_],_,rfl,⟨rfl,h.hJ⟩,[_],_,rfl,⟨rfl,h.work⟩,[_],_,rfl,⟨rfl,h.e'⟩,h.hQ⟩
theorem p4.inv {S:UO}{w:World}{cs:List Value}{s:qb}(h:p4.rel S w cs s):
 ∃xa xc,cs= [U2 s.b.parent,UZ s.b.f',U2 s.b.hJ,U2 s.b.work,U2 s.b.e',.slice xa s.b.hQ.length xc,U2 s.id,UZ s.par,U2 s.jy]/\w8 S w s xa xc:=by
 obtain⟨c1,_,rfl,h1,_,_,rfl,⟨rfl,w2⟩,_,_,rfl,⟨rfl,u⟩,⟨rfl,y⟩⟩:=h;obtain⟨xa,xc,rfl,j⟩:=nO.inv h1;exact⟨xa,xc,rfl,j,w2,u,y⟩
theorem p4.mk {S:UO}{w:World}{s:qb}{xa:UP}{xc:Nat}(h:w8 S w s xa xc):
 p4.rel S w [s.b.parent,UZ s.b.f',s.b.hJ,s.b.work,s.b.e',.slice xa s.b.hQ.length xc,s.id,UZ s.par,s.jy] s:=
 ⟨[s.b.parent,UZ s.b.f',s.b.hJ,s.b.work,s.b.e',.slice xa s.b.hQ.length xc],_,rfl,nO.mk h.blk,[_],_,rfl,⟨rfl,h.id⟩,[_],_,rfl,⟨rfl,h.par⟩,⟨rfl,h.jy⟩⟩
theorem w8.keep {S:UO}{w w':World}{s:qb}{xa:UP}{xc:Nat}(h:w8 S w s xa xc)(j:Kept S w w'):w8 S w' s xa xc:=⟨h.blk.keep j,h.id,h.par,h.jy⟩
theorem w8.c' {S:UO}{w w':World}{s:qb}{xa:UP}{xc:Nat}(h:w8 S w s xa xc)(j:BW w w'):w8 S w' s xa xc:=h.keep (Kept.of_below j)
abbrev jf:kS (List qb):=g4 p4
theorem o4 {S:UO}{w:World}{a:UP}{len cap:Nat}{l:List qb}(h:jf.rel S w [.slice a len cap] l)(k:Nat)(y:k<l.length):
 ∃b off xa xc,a=some ⟨b,off,none⟩/\b<w.heap.size/\w8 S w l[k] xa xc/\w.cell? ⟨b,off+k*9,none⟩=some (U2 l[k].b.parent)/\w.cell? ⟨b,off+k*9+1,none⟩=some (UZ l[k].b.f')/\w.cell? ⟨b,off+k*9+2,none⟩=some (U2 l[k].b.hJ)/\w.cell? ⟨b,off+k*9+3,none⟩=some (U2 l[k].b.work)/\w.cell? ⟨b,off+k*9+4,none⟩=some (U2 l[k].b.e')/\w.cell? ⟨b,off+k*9+5,none⟩=some (.slice xa l[k].b.hQ.length xc)/\w.cell? ⟨b,off+k*9+6,none⟩=some (U2 l[k].id)/\w.cell? ⟨b,off+k*9+7,none⟩=some (UZ l[k].par)/\w.cell? ⟨b,off+k*9+8,none⟩=some (U2 l[k].jy):=by
 obtain⟨b,off,es,rfl,z,u,hrel,j⟩:=g4.at h k y;obtain⟨xa,xc,rfl,ht⟩:=p4.inv hrel;rw [p4.n]at j;exact⟨b,off,xa,xc,rfl,u,ht,j 0 _ rfl,j 1 _ rfl,j 2 _ rfl,j 3 _ rfl,j 4 _ rfl,j 5 _ rfl,j 6 _ rfl,j 7 _ rfl,j 8 _ rfl⟩
structure nL where
 L:List qb
 lh:Int
 fin:Int
abbrev mE (pi:Bool)(r:i4)(la:UP)(lc:Nat)(m:nL):Array Value:= #[.bool pi,U0,I0,S0,S0,S0,UZ r.mode,UZ r.depth,UZ r.bl,UZ r.bu,UZ r.qu,U2 r.iz,UZ r.win,UZ r.fin,U2 r.work,.slice la m.L.length lc,UZ m.lh,UZ m.fin]
abbrev UV (pi:Bool)(r:i4)(la:UP)(lc:Nat)(m:nL):List Value:= [.bool pi,U0,I0,S0,S0,S0,UZ r.mode,UZ r.depth,UZ r.bl,UZ r.bu,UZ r.qu,U2 r.iz,UZ r.win,UZ r.fin,U2 r.work,.slice la m.L.length lc,UZ m.lh,UZ m.fin]
def rU:qb:=⟨⟨0,0,0,0,0,[]⟩,0, -1,0⟩
def vZ (L:List qb)(i:Int):Int:=if i<0 then 0 else (L.getD i.toNat rU).id
def mW (L:List qb)(i:Int):Int:=if i<0 then 0 else (L.getD i.toNat rU).b.f'
theorem lA (L:List qb)(k:Nat)(h:k<L.length):L.getD k rU=L[k]:=by rw [U5,z2 h];rfl
theorem yG (S:UO)(w:World)(pi:Bool)(r:i4)(m:nL)(la:UP)(lc:Nat)(h:jf.rel S w [.slice la m.L.length lc] m.L)(i:Int)(hi:i<m.L.length):
 Calls prog 53 #[.agg (mE pi r la lc m),UZ i] w (Rt w (.tuple #[(vZ m.L i),UZ (mW m.L i)])):=by
 have ag:=(g4.lens h).2;unfold maxLen at ag;have z:=jc w (.cells (mE pi r la lc m) 39);have V:=Hd (gY w (.cells (mE pi r la lc m) 39));obtain⟨H,K⟩:=ik (jf.c' h z) z;clear z h;go_in;go_upto_region 1 with(fail);generalize w.alloc (.cells (mE pi r la lc m) 39)=W at*
 by_cases j:i<0
 ·have y:Hi (vZ m.L i=0):=g7 j
  have u:Hi (mW m.L i=0):=g7 j;go_wp2;go_ret2;exact⟨by rw [y.o,u.o];rfl,K.o⟩
 ·obtain⟨k,rfl⟩: ∃k:Nat,i=k:=⟨i.toNat,UN⟩
  have G:k<m.L.length:=UN;have y:Hi (vZ m.L k=m.L[k].id):=Hd (by unfold vZ;rw [g3 j,jJ,lA _ _ G]);have u:Hi (mW m.L k=m.L[k].b.f'):=Hd (by unfold mW;rw [g3 j,jJ,lA _ _ G]);obtain⟨ao,off,xa,xc,rfl,ap,ah,c0,c1,c2,Y,ab,ad,U,ae,af⟩:=o4 H.o k G;generalize m.L[k].id=au at*;generalize m.L[k].b.f'=x2 at*;have aj:=g0 V.o;have ak:=hW c1;have al:=hW U;have aq:(0:Int)<=(k:Int):=UN;have ar:(k:Int)<(m.L.length:Int):=UN;clear c0 c1 c2 Y ab ad U ae af ah;go_wp2;refine m6 ?_
  repeat (first|go_big_quiet_step (fail)|quiet_step (fail))
  refine lz ?_;intro wq ai;clear aj ak al;go_wp2;go_ret2;exact⟨by rw [y.o,u.o];rfl,d' K.o ai⟩
def qe (L:List qb)(x:Int):Int:=match L.findIdx? (λs=>s.id==x)with
 |some k=>(k:Int)
 |none=> -1
theorem C3 {L:List qb}{x:Int}{k:Nat}(y:k<L.length)(h: ∀j (u:j<L.length),j<k->L[j].id≠x)(z:L[k].id=x):qe L x=k:=by
 unfold qe;rw [(List.findIdx?_eq_some_iff_getElem (p:=λs:qb=>s.id==x)).2 ⟨y,by simpa using z,λj u=>by have:=h j UN u;simpa using this⟩]
theorem yO {L:List qb}{x:Int}(h: ∀j (u:j<L.length),j<L.length->L[j].id≠x):qe L x= -1:=by
 unfold qe;rw [List.findIdx?_eq_none_iff.2 (λs y=>by
  obtain⟨j,u,rfl⟩:=TH y;have:=h j u u;simpa using this)]
theorem yP (S:UO)(w:World)(pi:Bool)(r:i4)(m:nL)(la:UP)(lc:Nat)(h:jf.rel S w [.slice la m.L.length lc] m.L)(x:Int):
 Calls prog 37 #[.agg (mE pi r la lc m),x] w (Rt w (UZ (qe m.L x))):=by
 have al:=(g4.lens h).2;unfold maxLen at al;have U:=jc w (.cells (mE pi r la lc m) 39);have af:=Hd (gY w (.cells (mE pi r la lc m) 39));obtain⟨H,ab⟩:=ik (jf.c' h U) U;clear U h;go_in;go_upto_region 1 with(fail);generalize w.alloc (.cells (mE pi r la lc m) 39)=W at*;go_wp2;go_loopw [5] (λY wr=> ∃k:Nat,k<=m.L.length/\Y= UZ k/\Hi (∀j (V:j<m.L.length),j<k->m.L[j].id≠x)/\BW W wr) (λY _=>m.L.length-(intOf Y).toNat)
 case atStart=>exact⟨0,iy _,rfl,λj _ h=>absurd h (pf _),g' _ _⟩
 case round=>
  obtain⟨k,aw,rfl,z,G⟩:=hrel;obtain⟨az,aA⟩:=a' (b' G af.o);by_cases hlt:k<m.L.length
  ·obtain⟨aq,off,xa,xc,rfl,au,ao,c0,c1,c2,ag,ah,ai,ar,aj,ak⟩:=o4 (jf.c' H.o G) k hlt
   have u:Hi (m.L[k].id=x->qe m.L x=k):=λe=>C3 hlt z.o e;have K:Hi (m.L[k].id≠x-> ∀j (V:j<m.L.length),j<k+1->m.L[j].id≠x):=λe j V av=>by
    rcases kZ j k with h1|h1
    ·exact z.o j V h1
    ·obtain rfl:j=k:=UN
     exact e
   generalize m.L[k].id=y at*
   have ax:(0:Int)<=(k:Int):=UN;have ay:(k:Int)<(m.L.length:Int):=UN;clear c0 c1 c2 ag ah ai aj ak ao z;by_cases hy:y=x
   ·have ap:(y==x)=true:=by simpa using hy
    have ad:=Hd (u.o hy);clear hy u K;go_wp2;go_ret;exact⟨g2 ad.o.symm,d' ab.o G⟩
   ·have ap:(y==x)=false:=by simpa using hy
    have ae:=Hd (K.o hy);clear hy u K;go_wp2;go_roundw
    case rel=>exact⟨k+1,UN,by go_num,ae,G⟩
    case measure=>exact UY
  ·obtain rfl:k=m.L.length:=UN
   have u:=Hd (yO z.o);clear z;go_wp2;go_ret;exact⟨g2 u.o.symm,d' ab.o G⟩
theorem Own.low {α:Type}{r:kS α}{base base':Nat}{e:TypeId}{F:UO}{w:World}{v:Value}{xs:List α}(h:Own r base e F w v xs)(G:base'<=base):Own r base' e F w v xs:=by
 obtain⟨S,css,z,U,K,hr,j⟩:=h;refine⟨S,css,z,U,K,hr,j.1,?_⟩;rcases j.2 with u|⟨g,cap,cur,h1,h2,y⟩
 ·exact .inl u
 ·exact .inr ⟨g,cap,cur,h1,iu G h2,y⟩
theorem s7 {w w':World}{a:Addr}{v:Value}(j:BW w w')(h:w.cell? a=some v):w'.cell? a=some v:=(Kept.of_below (S:=λ_=>True) j).cell trivial h
abbrev jS:kS (List Int):=g4 (j9 .i64)
theorem ints_at {S:UO}{w:World}{a:UP}{len cap:Nat}{l:List Int}(h:jS.rel S w [.slice a len cap] l)(k:Nat)(u:k<l.length):
 ∃b off,a=some ⟨b,off,none⟩/\zf l[k]/\w.cell? ⟨b,off+k,none⟩=some (UZ l[k]):=by
 obtain⟨b,off,es,rfl,y,z,hrel,j⟩:=g4.at h k u;obtain⟨rfl,hw⟩:=hrel;have:=j 0 _ rfl;rw [show(j9 .i64).n=1 from rfl,qP]at this;exact⟨b,off,rfl,hw,this⟩
theorem Gg:jj prog 96 3 1 8:=jj.of underlying96 (z:= I0) UQ rfl UN
def js (L:List qb):Nat->Int->List Int
 |0,_=> []
 |n+1,i=>if i<0 then []else js L n (L.getD i.toNat rU).par++ [i]
def xJ (L:List qb):Prop:= ∀k (j:k<L.length), -1<=L[k].par/\L[k].par<k
theorem pR (L:List qb): ∀n i,(js L n i).length<=n
 |0,_=>g9 _
 |n+1,i=>by
  unfold js;split
  ·simp
  ·rw [U3,TF];have:=pR L n (L.getD i.toNat rU).par;omega
def Iz (l:List Int)(w:World)(e:Ending)(w':World):Prop:= ∃v,e= .returned v/\Own (j9 .i64) w.heap.size 3 (λk=>w.heap.size<=k) w' v l/\BW w w'
abbrev H3 (W:World)(x:Nat)(cs:Array Value)(p:Addr)(pv:Value)(w':World):Prop:=BW W w'/\(∀o,w'.cell? ⟨x,o,none⟩=cs[o]?)/\w'.cell? p=some pv
section
variable {W w1 w2:World} {x:Nat} {cs:Array Value} {p:Addr} {pv:Value} {t:TypeId}
theorem H3.of (y:W.heap[x]? =some (.cells cs t (0,0)))(u:W.cell? p=some pv)(j:BW W w1):H3 W x cs p pv w1:=⟨j,(a' (b' j y)).1,s7 j u⟩
theorem H3.drew (h:H3 W x cs p pv w1):H3 W x cs p pv w1.drew:=⟨h.1.drew,h.2.1,h.2.2⟩
end
theorem q6 (S:UO)(pi:Bool)(r:i4)(m:nL)(la:UP)(lc:Nat)(aO:xJ m.L): ∀(n:Nat) (w:World) (i:Int),i<n-> -1<=i->i<m.L.length->n<=10000->jf.rel S w [.slice la m.L.length lc] m.L->
 Calls prog 39 #[.agg (mE pi r la lc m),UZ i] w (Iz (js m.L n i) w):=by
 intro n
 induction n with
 |zero=>
  intro w i aM aK aL aN h;obtain rfl:i= -1:=UN
  have ap:=(g4.lens h).2;unfold maxLen at ap;have V:=jc w (.cells (mE pi r la lc m) 39);have K:=Hd (gY w (.cells (mE pi r la lc m) 39));obtain⟨H,ab⟩:=ik (jf.c' h V) V;clear V h;go_in;go_upto_region 1 with(fail);generalize w.alloc (.cells (mE pi r la lc m) 39)=W at*;go_wp2;go_ret;exact⟨_,rfl,Own.nil _ _ _ _ _,ab.o⟩
 |succ n aP=>
  intro w i aM aK aL aN h;have ap:=(g4.lens h).2;unfold maxLen at ap;have V:=jc w (.cells (mE pi r la lc m) 39);have K:=Hd (gY w (.cells (mE pi r la lc m) 39));obtain⟨H,ab⟩:=ik (jf.c' h V) V;clear V h;go_in;go_upto_region 1 with(fail);generalize w.alloc (.cells (mE pi r la lc m) 39)=W at*
  by_cases az:i<0
  ·have al:Hi (js m.L (n+1) i= []):=g7 az
   go_wp2;go_ret;exact⟨_,rfl,by rw [al.o];exact Own.nil _ _ _ _ _,ab.o⟩
  ·obtain⟨k,rfl⟩: ∃k:Nat,i=k:=⟨i.toNat,UN⟩
   have aq:k<m.L.length:=UN;have al:Hi (js m.L (n+1) k=js m.L n m.L[k].par++ [(k:Int)]):=Hd (by rw [js,g3 az,jJ,lA _ _ aq]);obtain⟨ah,off,xa,xc,rfl,aQ,aJ,c0,c1,c2,aD,aE,aF,aG,aH,aI⟩:=o4 H.o k aq;have ao:=Hd (aO k aq);have ay:zf k:=nw UN UN;generalize m.L[k].par=p at*;obtain⟨aW,aX⟩:=a' K.o;obtain⟨ad,af⟩:=ik aH (pR m.L n p);have aT:(0:Int)<=(k:Int):=UN;have aU:(k:Int)<(m.L.length:Int):=UN;have aA:Hi (∀w1,jf.rel S w1 [.slice (some ⟨ah,off,none⟩) m.L.length lc] m.L->Calls prog 39 #[.agg #[pi,U0,I0,S0,S0,S0,UZ r.mode,UZ r.depth,UZ r.bl,UZ r.bu,UZ r.qu,r.iz,UZ r.win,UZ r.fin,r.work,.slice (some ⟨ah,off,none⟩) m.L.length lc,UZ m.lh,UZ m.fin],UZ p] w1 (Iz (js m.L n p) w1)):=λw1 h1=>aP w1 p (by have:=ao.o.2;omega) ao.o.1 (by have:=ao.o.2;omega) UN h1;clear c0 c1 c2 aD aE aF aG aI aJ;go_wp2_with fail
   go_region_held3 (λw'=>BW W w'/\(∀o,w'.cell? ⟨w.heap.size,o,none⟩=(#[.bool pi,U0,I0,S0,S0,S0,UZ r.mode,UZ r.depth,UZ r.bl,UZ r.bu,UZ r.qu,U2 r.iz,UZ r.win,UZ r.fin,U2 r.work,.slice (some ⟨ah,off,none⟩) m.L.length lc,UZ m.lh,UZ m.fin]:Array Value)[o]?)/\w'.cell? ⟨ah,off+k*9+7,none⟩=some (UZ p))
    (first
      |with_reducible exact H3.drew (H3.of K.o ad.o (g' _ _))
      |with_reducible exact av.o
      |with_reducible exact U.o
      |with_reducible exact H3.of K.o ad.o (hd (g' _ _) _).drew
      |with_reducible exact H3.of K.o ad.o (hd U.o.1 _))
    (first
      |(refine ns (r:=j9 .i64) (base:=w.heap.size) (v:= .slice aj (js m.L n p).length ak) (u:= .slice (some ⟨W.heap.size,0,none⟩) 1 1) (S:=λ_=>False) _ _ rfl Gg rfl rfl ag.o (Src.one (r:=j9 .i64) (y:=(k:Int)) ⟨rfl,ay⟩ aC.o) (λ_ _ h=>h.elim) (λ_ _ h=>h) (by have:=af.o;unfold maxLen;simp;omega) (by have:=af.o;simp;omega) G.o.size ?_
        intro v2 w2 ae Y ar;have aw:Hi (Own (j9 .i64) w.heap.size 3 (λk=>w.heap.size<=k) w2 v2 (js m.L n p++ [(k:Int)])):=ae.mono λj _ z=>z.elim id λh=>iu G.o.size h;have au:Hi (BW w w2):=Kept.behind G.o Y G.o.size (λj z e=>by have:=(ag.o.lt e).2.1;omega);have av:=Hd (H3.of K.o ad.o (Kept.behind U.o.1 Y U.o.1.size (λj z e=>by have:=ax.o _ e;omega)));clear ae Y ar)
      |(refine ns (r:=j9 .i64) (base:=w.heap.size) (v:= .slice aj (js m.L n p).length ak) (u:= .slice (some ⟨w1.heap.size,0,none⟩) 1 1) (S:=λ_=>False) _ _ rfl Gg rfl rfl (Own.c' ag.o (hd (g' _ _) _)) (Src.one (r:=j9 .i64) (y:=(k:Int)) ⟨rfl,ay⟩ (jx.new w1 [UZ k] 3)) (λ_ _ h=>h.elim) (λ_ _ h=>h) (by have:=af.o;unfold maxLen;simp;omega) (by have:=af.o;simp;omega) (iu G.o.size (hd (g' _ _) _).size) ?_
        intro v2 w2 ae Y ar;have aw:Hi (Own (j9 .i64) w.heap.size 3 (λk=>w.heap.size<=k) w2 v2 (js m.L n p++ [(k:Int)])):=ae.mono λj _ z=>z.elim id λh=>iu G.o.size (iu (hd (g' _ _) _).size h);have au:Hi (BW w w2):=Kept.behind (hd G.o (.cells #[UZ k] 3)) Y (iu G.o.size (hd (g' _ _) _).size) (λj z e=>by have:=(ag.o.lt e).2.1;omega);have av:=Hd (H3.of K.o ad.o (Kept.behind (hd U.o.1 _) Y (hd U.o.1 _).size (λj z e=>by have:=ax.o _ e;omega)));clear ae Y ar)
      |(go_at_call 39;refine(aA.o _ (jf.c' H.o (‹BW W _/\_/\_›).1)).mono ?_
        rintro e w1⟨aV,rfl,ai,hb1⟩;obtain⟨aj,ak,rfl, -, -⟩:=iW ai;have U:=Hd (H3.of K.o ad.o (d' (‹BW W _/\_/\_›).1 hb1))
        (try have aC:Hi (jx w1 W.heap.size 0 [UZ k]):=λj c z=>s7 hb1 (jx.new W [UZ k] 3 j c z))
        have G:Hi (BW w w1):=d' ab.o U.o.1;have ax:Hi (∀x,(Value.slice aj (js m.L n p).length ak).ownBlock=some x->W.heap.size<=x):=λx e=>iu (‹BW W _/\_/\_›).1.size (ai.lt e).2.1;have ag:Hi (Own (j9 .i64) w.heap.size 3 (λk=>w.heap.size<=k) w1 (.slice aj (js m.L n p).length ak) (js m.L n p)):=(Own.low ai (iu ab.o.size (‹BW W _/\_/\_›).1.size)).mono λj _ z=>iu (iu ab.o.size (‹BW W _/\_/\_›).1.size) z;clear ai hb1))
   all_goals
    go_wp2;go_ret;exact⟨_,rfl,by rw [al.o];exact aw.o,au.o⟩
theorem CR (S:UO)(w:World)(a:UP)(len cap:Nat)(l:List Int)(ab:l.length=len)(h:jS.rel S w [.slice a len cap] l)(ai:len<=1000000)(x:Int):
 Calls prog 38 #[.slice a len cap,UZ x] w (Rt w (.bool (decide (x∈l)))):=by
 obtain⟨H,Y⟩:=ik h ab;clear h ab;go_wp2;go_loopw [5] (λV wr=> ∃k:Nat,k<=len/\V= UZ k/\Hi (x∉l.take k)/\BW w wr) (λV _=>len-(intOf V).toNat)
 case atStart=>exact⟨0,iy _,rfl,by show x∉_;simp,g' _ _⟩
 case round=>
  obtain⟨k,ah,rfl,j,u⟩:=hrel;by_cases hlt:k<len
  ·have U:k<l.length:=by have:=Y.o;omega
   obtain⟨ag,off,rfl, -,c0⟩:=ints_at (jS.c' H.o u) k U;have K:Hi (l[k]=x->x∈l):=λe=>e▸z3 U;have G:Hi (l[k]≠x->x∉l.take (k+1)):=λe ad=>by
    rw [z4 U,Ti,TD]at ad;rcases ad with h1|h1
    ·exact j.o h1
    ·exact e h1.symm
   generalize l[k]=y at*
   have aj:(0:Int)<=(k:Int):=UN;have ak:(k:Int)<(len:Int):=UN;by_cases hy:y=x
   ·have af:(y==x)=true:=by simpa using hy
    have z:Hi (decide (x∈l)=true):=iP (K.o hy);clear hy K G j;go_wp2;go_ret;exact⟨g8 z.o.symm,u⟩
   ·have af:(y==x)=false:=by simpa using hy
    have ae:=Hd (G.o hy);clear hy K G j;go_wp2;go_roundw
    case rel=>exact⟨k+1,UN,by go_num,ae,u⟩
    case measure=>exact UY
  ·obtain rfl:k=len:=UN
   have z:Hi (decide (x∈l)=false):=iH (by have:=j.o;rw [<-Y.o,Sw]at this;exact this);clear j;go_wp2;go_ret;exact⟨g8 z.o.symm,u⟩
def tR (l o:List Int):Nat:=(l.filter λx=> !decide (x∈o)).length
theorem HF (l o:List Int)(k:Nat)(h:k<l.length):tR (l.take (k+1)) o=tR (l.take k) o+if l[k]∈o then 0 else 1:=by
 unfold tR;rw [z4 h,List.filter_append,U3];by_cases j:l[k]∈o<;>simp [j]
theorem UL (S S':UO)(w:World)(a b:UP)(len cap z U:Nat)(l o:List Int)(ad:l.length=len)(ae:o.length=z)(h:jS.rel S w [.slice a len cap] l)(h2:jS.rel S' w [.slice b z U] o)(ao:len<=1000000)(ai:z<=1000000):
 Calls prog 42 #[.slice a len cap,.slice b z U] w (Rt w (UZ (tR l o))):=by
 obtain⟨H,Y,af,ah⟩:=oX h ad h2 ae;clear h ad h2 ae;go_wp2;go_loopw [5,6] (λaj V wr=> ∃(k n:Nat),k<=len/\V= UZ k/\aj= UZ n/\n<=k/\Hi (n=tR (l.take k) o)/\BW w wr) (λ_ V _=>len-(intOf V).toNat)
 case atStart=>exact⟨0,0,iy _,rfl,rfl,g9 _,by show 0=_;simp [tR],g' _ _⟩
 case round=>
  obtain⟨k,n,al,rfl,rfl,ap,j,u⟩:=hrel;by_cases hlt:k<len
  ·have ab:k<l.length:=by have:=Y.o;omega
   obtain⟨ak,off,rfl, -,c0⟩:=ints_at (jS.c' H.o u) k ab;have G:=Hd (HF l o k ab);generalize l[k]=y at*
   have aq:(0:Int)<=(k:Int):=UN;have ar:(k:Int)<(len:Int):=UN;go_wp2_with fail;refine UR (CR _ wr b z U o ah.o (jS.c' af.o u) ai y) λau hb3=> ?_;by_cases hy:y∈o
   ·have K:Hi (n=tR (l.take (k+1)) o):=by show _=_;rw [G.o,g7 hy,xE];exact j.o
    rw [iP hy];clear hy G j;go_wp2;go_roundw
    case rel=>exact⟨k+1,n,UN,by go_num,rfl,UN,K,d' u hb3⟩
    case measure=>exact UY
   ·have K:Hi (n+1=tR (l.take (k+1)) o):=by show _=_;rw [G.o,g3 hy,<-j.o]
    rw [iH hy];clear hy G j;go_wp2;go_roundw
    case rel=>exact⟨k+1,n+1,UN,by go_num,by go_num,UN,K,d' u hb3⟩
    case measure=>exact UY
  ·obtain rfl:k=len:=UN
   have ag:Hi ((tR l o:Int)=n):=(by have:=j.o;rw [<-Y.o,Sw]at this;rw [this];rfl);clear j;go_wp2;go_ret;exact⟨g2 ag.o.symm,u⟩
theorem sB {L:List qb}(y:xJ L): ∀(n:Nat) (i:Int), -1<=i->i<L.length-> ∀x∈js L n i,0<=x/\x<L.length
 |0,_,_,_,x,j=>by simp [js]at j
 |n+1,i,z,h1,x,j=>by
  unfold js at j;split at j
  ·simp at j
  ·rename_i G
   rcases Ti.1 j with h|h
   ·obtain⟨k,rfl⟩: ∃k:Nat,i=k:=⟨i.toNat,UN⟩
    have u:k<L.length:=UN;rw [jJ,lA _ _ u]at h;have:=y k u;exact sB y n _ this.1 UN x h
   ·rw [TD]at h;omega
def r7 (L:List qb)(i:Int):Int:=(L.getD i.toNat rU).id
def zZ (L:List qb)(lh:Int):List Int:=(js L L.length lh).map (r7 L)
theorem Fw (S:UO)(w:World)(pi:Bool)(r:i4)(m:nL)(la:UP)(lc:Nat)(h:jf.rel S w [.slice la m.L.length lc] m.L)(aw:xJ m.L)(ar:m.L.length<=10000)(ht: -1<=m.lh)(ag:m.lh<m.L.length):
 Calls prog 56 #[.agg (mE pi r la lc m)] w λe w'=> ∃v,e= .returned v/\Own ib w.heap.size 24 (λk=>w.heap.size<=k) w' v (zZ m.L m.lh)/\BW w w':=by
 have aT:=(g4.lens h).2;unfold maxLen at aT;have ad:=jc w (.cells (mE pi r la lc m) 39);have ab:=Hd (gY w (.cells (mE pi r la lc m) 39));obtain⟨H,ai⟩:=ik (jf.c' h ad) ad;clear ad h;go_in;go_upto_region 1 with(fail);generalize w.alloc (.cells (mE pi r la lc m) 39)=W at*;obtain⟨ay,az⟩:=a' ab.o;go_wp2_with fail;refine(q6 S pi r m la lc aw m.L.length W m.lh ag ht ag ar H.o).mono ?_;rintro e w1⟨v1,rfl,ae,hb1⟩;obtain⟨wa,wc,rfl, -, -⟩:=iW ae;obtain⟨aJ,aG,aH,Y,aK,aA⟩:=J1 ae.slice (pR m.L m.L.length m.lh) (sB aw m.L.length m.lh ht ag) (d' ai.o hb1) (b' hb1 ab.o) (jf.c' H.o hb1);have HQ:Hi (zZ m.L m.lh=(js m.L m.L.length m.lh).map (r7 m.L)):=rfl;generalize js m.L m.L.length m.lh=l at*;clear ae hb1 ai ab H ay az;go_wp2;go_loopw [3,5] (λaV ah wr=> ∃k:Nat,k<=l.length/\ah= UZ k/\Hi (Own ib w1.heap.size 24 (λx=>w1.heap.size<=x) wr aV ((l.take k).map (r7 m.L)))/\BW w1 wr) (λ_ ah _=>l.length-(intOf ah).toNat)
 case atStart=>exact⟨0,iy _,rfl,Own.nil _ _ _ _ _,g' _ _⟩
 case round=>
  obtain⟨k,aX,rfl,G,K⟩:=hrel;have aY:l.length<=10000:=iu aG.o ar;obtain⟨L,V⟩:=iF ((l.take k).map (r7 m.L));have al:Hi (L.length<=10000):=Hd (by rw [<-V];simp;omega);rw [V]at G;have ak:=Hd V;clear V;obtain⟨oa,oc,rfl, -, -⟩:=iW G.o;by_cases hlt:k<l.length
  ·obtain⟨b2,o2,rfl, -,c0⟩:=ints_at (jS.c' aJ.o K) k hlt
   have au:=aH.o l[k] (z3 hlt);have U:Hi ((l.take (k+1)).map (r7 m.L)=(l.take k).map (r7 m.L)++ [r7 m.L l[k]]):=Hd (by rw [z4 hlt,T0];rfl);obtain⟨j,z⟩: ∃j:Nat,l[k]=(j:Int):=⟨l[k].toNat,UN⟩;rw [z]at au c0 U;have ap:j<m.L.length:=UN;have aj:Hi (r7 m.L j=m.L[j].id):=Hd (by unfold r7;rw [jJ,lA _ _ ap]);obtain⟨b3,o3,xa,xc,rfl, -,ao,d0,d1,aL,aM,aN,aO,aW,aP,aQ⟩:=o4 (jf.c' aA.o K) j ap;have aF:=Hd ao.id;rw [aj.o]at U;generalize m.L[j].id=y at*;obtain⟨ay,az⟩:=a' (b' K aK.o);have aZ:(0:Int)<=(k:Int):=UN;have a0:(k:Int)<(l.length:Int):=UN;have a1:(0:Int)<=(j:Int):=UN;have a2:(j:Int)<(m.L.length:Int):=UN;rw [ak.o]at U;clear d0 d1 aL aM aN aO aP aQ ao z au aj;have af:=K.size;go_wp2_with fail
   go_region_law (first
    |(refine iV (r:=ib) (base:=w1.heap.size) (v:= .slice oa L.length oc) (u:= .slice (some ⟨wr.heap.size,0,none⟩) 1 1) (S:=λ_=>False) rfl _ _ rfl iX rfl rfl (G.o.c' (hd (g' _ _) (.cells #[y] 24)).drew) (Src.one (r:=ib) (y:=y) ⟨rfl,aF.o⟩ (jx.new wr [y] 24)) (λ_ _ h=>h.elim) (λ_ _ h=>h) (by have:=al.o;unfold maxLen;simp;omega) (by have:=al.o;simp;omega) (iu af (hd (g' _ _) _).drew.size) ?_
      intro v2 w2 av aq aU;have aI:Hi (Own ib w1.heap.size 24 (λx=>w1.heap.size<=x) w2 v2 ((l.take (k+1)).map (r7 m.L))):=by
       rw [U.o];exact av.mono λj _ z=>z.elim id λh=>iu af (iu (hd (g' _ _) _).drew.size h)
      have aC:Hi (BW w1 w2):=Kept.behind (hd K (.cells #[y] 24)).drew aq (iu af (hd (g' _ _) _).drew.size) (λj z e=>by have:=(G.o.lt e).2.1;omega);clear av aq aU))
   all_goals
    go_wp2;go_roundw
    case rel=>exact⟨k+1,UN,by go_num,aI,aC.o⟩
    case measure=>first|(simp [intOf];done)|(simp [intOf];omega)
  ·obtain rfl:k=l.length:=UN
   have aD:=G.o;have ax:=ak.o;rw [Sw,<-HQ.o]at ax;subst ax;clear G;have aE:=Hd aD;go_wp2;go_ret;exact⟨_,rfl,(Own.low aE.o Y.o.size).mono λj _ z=>iu Y.o.size z,d' Y.o K⟩
end Go.Proofs.YtjdiofjjoefnhaaGreatDoor
