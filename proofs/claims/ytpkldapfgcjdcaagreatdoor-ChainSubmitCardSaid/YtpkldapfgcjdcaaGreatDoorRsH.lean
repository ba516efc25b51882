/- The reference's Submit: its walk up to the new block. -/
import Derived.Test.YtpkldapfgcjdcaaGreatDoorMRp
import Derived.Test.YtpkldapfgcjdcaaGreatDoorMKit
set_option maxRecDepth 100000
set_option maxHeartbeats 8000000
namespace Go.Proofs.YtpkldapfgcjdcaaGreatDoor
open Tryz Go.ChangeShapes Go.WideShapes Go.ChangeAt Go.RowKit Go.Sort
structure OS (B1:Nat)(l0 l1:List Value)(B2:Nat)(l2:List Value)(b3 o3:Nat)(l3:List Value)(w':World):Prop where
 pl:w'.rangeAt B1 0 l0
 ru:w'.rangeAt B1 6 l1
 c2: ∀i,w'.cell? ⟨B2,i,none⟩=(List.toArray l2)[i]?
 r3:w'.rangeAt b3 o3 l3
theorem OS.next {B1 B2 b3 o3:Nat}{l0 l1 l2 l3:List Value}{w w':World}(h:OS B1 l0 l1 B2 l2 b3 o3 l3 w)(_h1:B1<w.heap.size)(h2:B2<w.heap.size)(j:BW w w'):OS B1 l0 l1 B2 l2 b3 o3 l3 w':=
 ⟨mj h.pl j,mj h.ru j,λi=>by rw [<-h.c2 i];exact World.cell?_of_block (w:=w) (j.block B2 h2),mj h.r3 j⟩
theorem nM.place {r:i4}{w0 w:World}{SP SB:Nat->Prop}{la:Option Addr}{lc:Nat}{rc:nL}{b:hV}{xa:Option Addr}{xc:Nat}(h:nM r w0 SP SB la lc rc b xa xc w):w.rangeAt w0.heap.size 0 [false,U0,I0,S0,S0,S0]:=λj v u=>by
 have y:=(a' h.cc).1
 match j with
 |0=>simp at u;subst u;rw [y];rfl
 |1=>simp at u;subst u;rw [y];rfl
 |2=>simp at u;subst u;rw [y];rfl
 |3=>simp at u;subst u;rw [y];rfl
 |4=>simp at u;subst u;rw [y];rfl
 |5=>simp at u;subst u;rw [y];rfl
 |j+6=>simp at u
theorem lj:jj prog 37 94 9 88:=jj.of underlying37 (z:= .agg #[U0,I0,U0,U0,U0,S0,U0,I0,U0]) (by kernel_rfl) rfl (by omega)
structure n9 (X:Nat)(l:List Value)(w':World):Prop where
 r2:w'.rangeAt X 0 l
theorem n9.of {X:Nat}{l:List Value}{w w':World}(h:w.rangeAt X 0 l)(j:BW w w'):n9 X l w':=⟨mj h j⟩
theorem n9.put {X q:Nat}{l:List Value}{w:World}(h:n9 X l w)(y:X≠q)(i:Nat)(u:Value):n9 X l (w.setCell ⟨q,i,none⟩ u):=
 ⟨λj v z=>by rw [<-h.r2 j v z];exact World.cell?_of_block (w:=w) (Below.heap_setCell w ⟨q,i,none⟩ u X y)⟩
theorem oN {w:World}{B:Nat}{l:List Value}(h: ∀o,w.cell? ⟨B,o,none⟩=(List.toArray l)[o]?):w.rangeAt B 0 l:=λj v u=>by rw [nC,h];simpa using u
theorem kA {w:World}{b:Nat}{cs:List Value}{t:TypeId}(h:w.heap[b]? =some (.cells cs.toArray t (0,0))):jx w b 0 cs:=λj c u=>by
 rw [nC,(a' h).1];simpa using u
theorem n9.row {X q:Nat}{l:List Value}{w:World}(h:n9 X l w)(u:X≠q)(cs:Array Value):n9 X l (w.setRow q cs):=
 ⟨λj v y=>by rw [<-h.r2 j v y];exact World.cell?_of_block (w:=w) (setRow_other w q X cs u)⟩
theorem lO.row {w0 w:World}{B g:Nat}{l:List Value}(h:lO w0 B l w)(u:w0.heap.size<=g)(j:B≠g)(cs:Array Value):lO w0 B l (w.setRow g cs):=
 ⟨below_setRow h.mx u _,λo=>by rw [<-h.Lh o];exact World.cell?_of_block (w:=w) (setRow_other w g _ cs j)⟩
section
variable {r:i4} {w0 w w':World} {SP SB:Nat->Prop} {la:Option Addr} {lc:Nat} {rc oW:nL} {b:hV} {xa:Option Addr} {xc:Nat}
theorem nM.cell (h:nM r w0 SP SB la lc rc b xa xc w){q:Nat}(y:w0.heap.size+3<=q)(i:Nat)(u:Value):nM r w0 SP SB la lc rc b xa xc (w.setCell ⟨q,i,none⟩ u):=
 ⟨hB h.cc (by show _≠q;omega),hB h.cb (by show _≠q;omega),hB h.cr (by show _≠q;omega),jf.keep h.tK ((h9 _ _ _ _).mono λk _ j=>by have h1:=j.2;show k≠_;omega),
  ⟨h.blk.parent,h.blk.f',h.blk.hJ,h.blk.work,h.blk.e',my.keep h.blk.hQ ((h9 _ _ _ _).mono λk _ j=>by have h1:=j.2;show k≠_;omega)⟩,j4 h.mx (by omega) _ (by have:=h.size;omega)⟩
theorem nM.J0 (h:nM r w0 SP SB la lc rc b xa xc w)(z:BW w w'){u:Option Addr}{y:Nat}{Z:List qb}(G:jf.rel (λk=>((SP k\/SB k)/\k<w0.heap.size)\/w.heap.size<=k) w' [.slice u Z.length y] Z)(hr:oW=⟨Z,rc.lh,rc.fin⟩):
 Gx r w0 SP SB u y oW (w'.setCell ⟨w0.heap.size,15,none⟩ (.slice u Z.length y)):=by
 have K:=h.size;have j:=h.c' z;subst hr;exact⟨h6 j.cc,hB j.cr (by show _≠w0.heap.size;omega),(jf.keep (jf.mono G (S':=Gz SP SB w0.heap.size) λk _ j=>by rcases j with j|j;exact .inl j;exact .inr (by omega)) ((h9 _ _ _ _).mono λk _ j=>by have h1:Gz SP SB w0.heap.size k:=j;show k≠_;rcases h1 with⟨-,h1⟩|h1<;>omega)),j4 j.mx (g9 _) _ (by have:=j.size;omega)⟩
end
theorem Dy (SP SB:Nat->Prop)(w:World)(r:i4)(hr:oo r)(eW:r.mode=2)(eU:r.depth<=11)(m:k7)(ok:lE r m)(rc:nL)(sm:lD m rc)(f4:m.L.length<=99)(la:Option Addr)(lc:Nat)(h:jf.rel SP w [.slice la rc.L.length lc] rc.L)(b:hV)(xa:Option Addr)(xc:Nat)(bE:i7 SB w b xa xc)(eZ: ∀t∈b.hQ,t.proof.length<=1000000)(eP:b.hQ.length<=64):
 Calls prog 10 #[.agg (mE false r la lc rc),.agg (jI b xa xc)] w (ov r m rc b la lc SP SB w):=by
 obtain⟨eL,b2,b3⟩:=vu w (.cells (mE false r la lc rc) 39) (.cells (jI b xa xc) 44) (.cells pn 39);have c4:=hd (hd (jc w (.cells (mE false r la lc rc) 39)) (.cells (jI b xa xc) 44)) (.cells pn 39)
 have ce:Hi (nM r w SP SB la lc rc b xa xc (((w.alloc (.cells (mE false r la lc rc) 39)).alloc (.cells (jI b xa xc) 44)).alloc (.cells pn 39))):=
  ⟨eL,b2,b3,jf.c' (jf.bound h) c4,⟨bE.parent,bE.f',bE.hJ,bE.work,bE.e',my.c' (my.bound bE.hQ) c4⟩,c4⟩
 obtain⟨bQ,fm,co,a2,be,cV,fw,cL⟩:=Mb hr eW eU ok sm sm.zU eZ eP;have aw:Hi (rc.L.length<=100):=Hd (by rw [sm.len];omega);have gB:Hi (rc.L.length<=99):=Hd (by rw [sm.len];omega);obtain⟨ch,fd⟩:=ik sm.bounds bE.work;have eB:Hi (0<=r.fin/\r.fin<=1048576):=⟨by have:=hr.f0;omega,hr.f1⟩;clear eL b2 b3 c4 hr eW eU ok sm f4 h bE eZ eP;go_enter func10,ntmps10;go_upto_region 1 with(fail);generalize (((w.alloc (.cells (mE false r la lc rc) 39)).alloc (.cells (jI b xa xc) 44)).alloc (.cells pn 39))=W at*
 go_wp2_with (first
  |(refine wpList_load_mid rfl _ _ rfl w.heap.size 6 rfl [.int .i64 r.mode,.int .i64 r.depth,.int .i64 r.bl,.int .i64 r.bu,.int .i64 r.qu,r.iz,.int .i64 r.win,.int .i64 r.fin,r.work] _ ce.o.rules underlying26 rfl (by kernel_rfl) ?_)
  |(refine kf rfl _ _ rfl (w.heap.size+1) rfl _ _ _ _ ce.o.cb underlying44 rfl (by kernel_rfl) ?_))
 refine(zu _ W r b xa xc ce.o.blk).mono ?_;rintro e w1 ⟨rfl,hb1⟩;have bA:=Hd (ce.o.c' hb1);clear hb1 ce;by_cases V:iN r.work b=0
 case neg=>
  as_aux_lemma=>
   have ab:Hi (l' r m b=iN r.work b):=Cu V;have au:(iN r.work b != 0)=true:=(by rw [iB];exact V);generalize iN r.work b=E at*;have cv:Hi (E≠0):=V;clear V
   go_wp2_with (first
    |(refine kf rfl _ _ rfl w.heap.size rfl _ _ _ _ bA.o.cc underlying39 rfl (by kernel_rfl) ?_)
    |(refine kI rfl _ _ _ rfl (w.heap.size+2) _ rfl rfl _ _ bA.o.cr (by kernel_rfl) rfl (by kernel_rfl) ?_))
   (try simp only [Exit.inBlock,Exit.then])
   refine iQ (v:= .tuple #[.agg (mE false r la lc rc),I0,I0,.int .i64 E]) ?_ rfl (ov.bad ab.o cv.o bA.o.mx _);exact sy results10 rfl (kr _ _ _ _ _ _ bA.o.cr) underlying39 rfl (by kernel_rfl)
 have bX:=Hd V;rw [V];clear V
 go_wp2_with (first
  |(refine kf rfl _ _ rfl (w.heap.size+1) rfl _ _ _ _ bA.o.cb underlying44 rfl (by kernel_rfl) ?_))
 refine(t6 _ w1 b xa xc bA.o.blk).mono ?_;rintro e w2 ⟨rfl,hb2⟩;have cM:=Hd (bA.o.c' hb2);obtain⟨id,dU⟩:=iF (iv b);have bM:=Hd dU;rw [dU];clear hb2 bA dU
 go_wp2_with (first
  |(refine kf rfl _ _ rfl w.heap.size rfl _ _ _ _ cM.o.cc underlying39 rfl (by kernel_rfl) ?_))
 refine(yP _ w2 false r rc la lc cM.o.tK id).mono ?_;rintro e gl ⟨rfl,hb3⟩;obtain⟨a0,cR⟩:=ik (cM.o.c' hb3) (Jy be.o a2.o id);obtain⟨y,hy⟩:=iF (qe rc.L id);rw [hy]at cR⊢;clear hb3 cM hy;by_cases cD:0<=y
 case pos=>
  as_aux_lemma=>
   have ab:Hi (l' r m b=5):=xY bX.o (by rw [bM.o];exact cR.o.1 cD);have au:decide (0<=y)=true:=iP cD
   go_wp2_with (first
    |(refine kf rfl _ _ rfl w.heap.size rfl _ _ _ _ a0.o.cc underlying39 rfl (by kernel_rfl) ?_)
    |(refine kI rfl _ _ _ rfl (w.heap.size+2) _ rfl rfl _ _ a0.o.cr (by kernel_rfl) rfl (by kernel_rfl) ?_))
   (try simp only [Exit.inBlock,Exit.then])
   refine iQ (v:= .tuple #[.agg (mE false r la lc rc),I0,I0,.int .i64 5]) ?_ rfl (ov.bad ab.o (by omega) a0.o.mx _);exact sy results10 rfl (kr _ _ _ _ _ _ a0.o.cr) underlying39 rfl (by kernel_rfl)
 have cn:Hi (iA m.L (iv b)=none):=by
  show _=_;rw [bM.o]
  cases bS:iA m.L id with
  |none=>rfl
  |some e=>exact absurd (cR.o.2 (by rw [bS];rfl)) cD
 have au:decide (0<=y)=false:=iH cD;have bC:Hi (1<=b.f'):=(kQ (kX bX.o).1).1;have fl:=Hd a0.o.blk.f';clear cR;obtain⟨d3,d4⟩:=a' a0.o.cb;go_upto_if 37 with(fail);clear cD au;go_cut [10]from 37 (λv10 wc=>v10= .int .i64 (m7 rc b)/\Hi (nM r w SP SB la lc rc b xa xc wc))
 case first=>
  by_cases h1:1<b.f'
  ·have ab:Hi (m7 rc b=qe rc.L b.parent):=g7 h1
   have au:decide (1<b.f')=true:=iP h1
   go_wp2_with (first
    |(refine kf rfl _ _ rfl w.heap.size rfl _ _ _ _ a0.o.cc underlying39 rfl (by kernel_rfl) ?_))
   refine(yP _ gl false r rc la lc a0.o.tK b.parent).mono ?_;rintro e gM ⟨rfl,eR⟩;have e9:=Hd (a0.o.c' eR);clear eR d3 d4;go_wp2_with fail;go_meet
   case rel=>exact⟨by rw [ab.o],e9⟩
  ·have ab:Hi (m7 rc b= -1):=g3 h1
   have au:decide (1<b.f')=false:=iH h1;clear d3 d4;go_wp2_with fail;go_meet
   case rel=>exact⟨by rw [ab.o],a0⟩
 obtain⟨rfl,cf⟩:=hcut;obtain⟨gm,f5⟩: ∃x,x=wc:=⟨_,rfl⟩;subst f5;clear a0 d3 d4;go_upto_region 10 with(fail);go_cut [10,71]from 42 to 71 (λv10 gj wc=>v10= .int .i64 (m7 rc b)/\gj= .bool (lH rc b)/\Hi (BW gm wc))
 case first=>
  obtain⟨bH,bI⟩:=a' cf.o.cb;obtain⟨u0,u1⟩:=a' cf.o.cc;have a4:Hi (lH rc b=decide ((b.f'=1/\b.parent≠0)\/(1<b.f'/\(m7 rc b<0\/mW rc.L (m7 rc b)≠b.f'-1)))):=rfl;by_cases h1:b.f'=1
  ·have au:(b.f'==1)=true:=by rw [iO];exact h1
   have d7:decide (1<b.f')=false:=iH (by omega);by_cases h2:b.parent=0
   ·have ab:Hi (lH rc b=false):=by show _=_;rw [a4.o,pg];omega
    have cK:(b.parent != 0)=false:=(by rw [jt];exact h2);clear h1 h2 a4;go_region
    all_goals
     go_wp2_with fail;go_meet
     case rel=>exact⟨rfl,by rw [ab.o],(g' _ _).drew⟩
   ·have ab:Hi (lH rc b=true):=by show _=_;rw [a4.o,jk];exact .inl ⟨h1,h2⟩
    have cK:(b.parent != 0)=true:=(by rw [iB];exact h2);clear h1 h2 a4;go_region
    all_goals
     go_wp2_with fail;go_meet
     case rel=>exact⟨rfl,by rw [ab.o],(g' _ _).drew⟩
  ·have hh:=bC.o
   have au:(b.f'==1)=false:=(by rw [je];exact h1);have c3:1<b.f':=(by omega);have d7:decide (1<b.f')=true:=iP c3;have aA:m7 rc b=qe rc.L b.parent:=g7 c3;rcases be.o.find a2.o b.parent with⟨-,ay⟩|⟨e,k,V, -,ay, -⟩
   ·have ab:Hi (lH rc b=true):=by show _=_;rw [a4.o,jk];exact .inr ⟨c3,.inl (by rw [aA,ay];omega)⟩
    have bZ:Hi (m7 rc b= -1):=aA.trans ay;rw [aA,ay];clear h1 hh aA ay a4;go_region
    all_goals
     go_wp2_with fail;go_meet
     case rel=>exact⟨by rw [bZ.o],by rw [ab.o],(g' _ _).drew⟩
   ·have ab:Hi (lH rc b=(rc.L[k].b.f' != b.f'-1)):=by
     show _=_;rw [a4.o,aA,ay,tw _ _ V];have a6: ¬b.f'=1:=h1;have bD: ¬(k:Int)<0:=(by omega);simp [a6,bD,c3,bne,Bool.beq_eq_decide_eq]
    have bZ:Hi (m7 rc b=(k:Int)):=aA.trans ay;rw [aA,ay];obtain⟨bR,off,d5,d6,rfl,aj, -,c0,c1, -⟩:=o4 cf.o.tK k V;have dS:=fl.o;have gV:decide ((k:Int)<0)=false:=iH (by omega);have gW:wrap64 (b.f'-1)=b.f'-1:=(by have fV:=xP dS;unfold wrap64;omega);have gX:IntKind.i64.wrap (b.f'-1)=b.f'-1:=(by have fV:=xP dS;rw [rX];omega);have cH:(0:Int)<=(k:Int):=(by omega);have cI:(k:Int)<(rc.L.length:Int):=(by omega);generalize rc.L[k].b.f'=gu at*;clear h1 hh aA ay a4 dS aj c0;go_region
    all_goals
     go_wp2_with fail;go_meet
     case rel=>exact⟨by rw [bZ.o],by rw [ab.o],(g' _ _).drew⟩
 obtain⟨rfl,rfl,aE⟩:=hcut;obtain⟨bh,f6⟩: ∃x,x=wc:=⟨_,rfl⟩;subst f6;obtain⟨a1,cW⟩:=ik (cf.o.c' aE.o) (pr be.o a2.o bC.o);have dz:=Hd (λaA=>F5 be.o a2.o (b:=b) bC.o aA);have ds:=Hd (λaA=>KS be.o a2.o (b:=b) bC.o aA);have dJ:=Hd (λaA=>IP be.o a2.o (b:=b) bC.o aA);clear aE cf
 cases bF:lH rc b with
 |true=>
  as_aux_lemma=>
   have bZ:Hi (kd m.L b=18):=cW.o.1.trans (g7 bF);have ab:Hi (l' r m b=18):=(Ct bX.o cn.o (by rw [bZ.o];omega)).trans bZ.o;clear cW dz ds dJ bF
   go_wp2_with (first
    |(refine kf rfl _ _ rfl w.heap.size rfl _ _ _ _ a1.o.cc underlying39 rfl (by kernel_rfl) ?_)
    |(refine kI rfl _ _ _ rfl (w.heap.size+2) _ rfl rfl _ _ a1.o.cr (by kernel_rfl) rfl (by kernel_rfl) ?_))
   (try simp only [Exit.inBlock,Exit.then])
   refine iQ (v:= .tuple #[.agg (mE false r la lc rc),I0,I0,.int .i64 18]) ?_ rfl (ov.bad ab.o (by omega) a1.o.mx _);exact sy results10 rfl (kr _ _ _ _ _ _ a1.o.cr) underlying39 rfl (by kernel_rfl)
 |false=>
  have cP:Hi (kd m.L b=0):=by have eO:=cW.o.1;rw [bF]at eO;exact eO
  obtain⟨a3,cS,dj,a4⟩:=oX (dz.o bF) (ds.o bF) (dJ.o bF) bF;clear cW dz ds dJ bF;obtain⟨p,aA⟩:=iF (m7 rc b);have dB:=Hd aA;rw [aA]at a3 cS dj⊢;have fu:Hi (zf p):=nw (by have:=a3.o.1;omega) (by have:=a3.o.2;have:=aw.o;omega);clear aA;have dK:=Hd (pR rc.L rc.L.length p);go_upto_region 12 with(fail);go_cut [84]from 73 to 84 (λgk wc=>gk= .bool (tW rc p)/\Hi (BW bh wc))
  case first=>
   have c7:tW rc p=decide (0<=rc.fin/\rc.fin∉js rc.L rc.L.length p):=rfl;by_cases ay:0<=rc.fin
   ·have ab:Hi (tW rc p= !decide (rc.fin∈js rc.L rc.L.length p)):=by show _=_;rw [c7];simp [ay]
    have au:decide (0<=rc.fin)=true:=iP ay;clear c7;refine qS (S:=lO bh w.heap.size [false,U0,I0,S0,S0,S0,.int .i64 r.mode,.int .i64 r.depth,.int .i64 r.bl,.int .i64 r.bu,.int .i64 r.qu,r.iz,.int .i64 r.win,.int .i64 r.fin,r.work,.slice la rc.L.length lc,.int .i64 rc.lh,.int .i64 rc.fin]) (by kernel_rfl) (lO.of a1.o.cc (Br bh).drew) (λhHeld=> ?_);go_simp;refine kL 0 ?_;go_simp;refine Gu 1 rfl (λa9 ao=>by have c1:=ao.Lh;go_simp;all_goals with_reducible rfl) ?_;go_simp;refine kL 2 ?_;go_simp;refine kL 3 ?_;go_simp;refine xp 4 rfl (pe (by rfl) _ _ rfl (w.heap.size) (0) rfl [false,U0,I0,S0,S0,S0,.int .i64 r.mode,.int .i64 r.depth,.int .i64 r.bl,.int .i64 r.bu,.int .i64 r.qu,r.iz,.int .i64 r.win,.int .i64 r.fin,r.work,.slice la rc.L.length lc,.int .i64 rc.lh,.int .i64 rc.fin] _ (λa9 ao=>ao.range) underlying39 rfl (by kernel_rfl)) ?_;go_simp;refine kL 5 ?_;go_simp;refine kL 7 ?_;go_simp;refine Gu 8 rfl (λa9 ao=>by have c1:=ao.Lh;go_simp;all_goals with_reducible rfl) ?_;go_simp;refine l8 6 rfl (λK G=> ?_);go_simp;refine(q6 _ false r rc la lc cV.o rc.L.length _ p a3.o.2 a3.o.1 a3.o.2 (by have:=aw.o;omega) (jf.c' a1.o.tK (Br bh).drew)).mono ?_;rintro e bw ⟨v,rfl,aX,bp⟩;obtain⟨wa,gs,rfl, -, -⟩:=iW aX;have dN:=d' (Br bh).drew bp;obtain⟨aT,fo⟩:=ik dN aX.slice;have fW:lO bh w.heap.size [false,U0,I0,S0,S0,S0,.int .i64 r.mode,.int .i64 r.depth,.int .i64 r.bl,.int .i64 r.bu,.int .i64 r.qu,r.iz,.int .i64 r.win,.int .i64 r.fin,r.work,.slice la rc.L.length lc,.int .i64 rc.lh,.int .i64 rc.fin] bw:=lO.of a1.o.cc dN;clear bp dN aX;clear hHeld;refine G.out _ _ (fW) (λhHeld=> ?_);clear G K;go_simp;refine l8 9 rfl (λK G=> ?_);go_simp;refine(CR _ _ wa (js rc.L rc.L.length p).length gs (js rc.L rc.L.length p) rfl fo.o (by have:=dK.o;have:=aw.o;omega) rc.fin).mono ?_;rintro e aC ⟨rfl,aW⟩;have dO:=d' aT.o aW;have aZ:=Hd dO;have fX:lO bh w.heap.size [false,U0,I0,S0,S0,S0,.int .i64 r.mode,.int .i64 r.depth,.int .i64 r.bl,.int .i64 r.bu,.int .i64 r.qu,r.iz,.int .i64 r.win,.int .i64 r.fin,r.work,.slice la rc.L.length lc,.int .i64 rc.lh,.int .i64 rc.fin] aC:=lO.of a1.o.cc dO;clear aW dO;clear hHeld;refine G.out _ _ (fX) (λhHeld=> ?_);clear G K;go_simp;refine kL 10 ?_;go_simp;refine kL 11 ?_;go_simp;refine mA (by as_aux_lemma=>kernel_rfl) ?_ _
    (try simp only [Exit.then])
    go_wp2_with fail;go_meet
    case rel=>exact⟨by rw [ab.o],aZ⟩
   ·have ab:Hi (tW rc p=false):=by show _=_;rw [c7,pg];exact λh=>ay h.1
    have au:decide (0<=rc.fin)=false:=iH ay;clear c7;refine qS (S:=lO bh w.heap.size [false,U0,I0,S0,S0,S0,.int .i64 r.mode,.int .i64 r.depth,.int .i64 r.bl,.int .i64 r.bu,.int .i64 r.qu,r.iz,.int .i64 r.win,.int .i64 r.fin,r.work,.slice la rc.L.length lc,.int .i64 rc.lh,.int .i64 rc.fin]) (by kernel_rfl) (lO.of a1.o.cc (Br bh).drew) (λhHeld=> ?_);go_simp;refine kL 0 ?_;go_simp;refine Gu 1 rfl (λa9 ao=>by have c1:=ao.Lh;go_simp;all_goals with_reducible rfl) ?_;go_simp;refine kL 2 ?_;go_simp;refine kL 3 ?_;go_simp;refine xp 4 rfl (Or.inr ⟨by rfl,rfl⟩) ?_;go_simp;refine xp 5 rfl (Or.inr ⟨by rfl,rfl⟩) ?_;go_simp;refine xp 6 rfl (Or.inr ⟨by rfl,rfl⟩) ?_;go_simp;refine xp 7 rfl (Or.inr ⟨by rfl,rfl⟩) ?_;go_simp;refine xp 8 rfl (Or.inr ⟨by rfl,rfl⟩) ?_;go_simp;refine xp 9 rfl (Or.inr ⟨by rfl,rfl⟩) ?_;go_simp;refine xp 10 rfl (Or.inr ⟨by rfl,rfl⟩) ?_;go_simp;refine kL 11 ?_;go_simp;refine mA (by as_aux_lemma=>kernel_rfl) ?_ _
    (try simp only [Exit.then])
    go_wp2_with fail;go_meet
    case rel=>exact⟨by rw [ab.o],(Br bh).drew⟩
  obtain⟨rfl,aE⟩:=hcut;obtain⟨bw,f7⟩: ∃x,x=wc:=⟨_,rfl⟩;subst f7;have bV:=Hd (a1.o.c' aE.o);clear aE a1
  cases c6:tW rc p with
  |true=>
   as_aux_lemma=>
    have ab:Hi (l' r m b=19):=xZ bX.o cn.o cP.o (by rw [<-cS.o];exact c6);clear c6
    go_wp2_with (first
     |(refine kf rfl _ _ rfl w.heap.size rfl _ _ _ _ bV.o.cc underlying39 rfl (by kernel_rfl) ?_)
     |(refine kI rfl _ _ _ rfl (w.heap.size+2) _ rfl rfl _ _ bV.o.cr (by kernel_rfl) rfl (by kernel_rfl) ?_))
    (try simp only [Exit.inBlock,Exit.then])
    refine iQ (v:= .tuple #[.agg (mE false r la lc rc),I0,I0,.int .i64 19]) ?_ rfl (ov.bad ab.o (by omega) bV.o.mx _);exact sy results10 rfl (kr _ _ _ _ _ _ bV.o.cr) underlying39 rfl (by kernel_rfl)
  |false=>
   have eg:Hi (r8 m (iI m.L b)=false):=Hd (by rw [<-cS.o];exact c6);clear c6 cS;go_wp2_with fail;go_loopw [11] (λdZ wr=> ∃i:Nat,i<=b.hQ.length/\dZ= .int .i64 i/\Hi (pJ r (b.hQ.drop i)=pJ r b.hQ)/\Hi (BW bw wr)) (λdZ _=>b.hQ.length-(intOf dZ).toNat)
   case atStart=>exact⟨0,iy _,rfl,rfl,g' _ _⟩
   case round=>
    obtain⟨i,hi,rfl,cY,di⟩:=hrel;have aD:=Hd (bV.o.c' di.o);have eH:=Hd aD.o.size;by_cases hlt:i<b.hQ.length
    ·obtain⟨bR,off,ma,oa,pa,mc,oc,pc,rfl,f3,ht,c0,c1,c2,av,b0,b1,b4,b5,b6,eM⟩:=oq aD.o.blk.hQ i hlt
     obtain⟨eC,cz⟩:=ik (F2 c0 c1 c2 av b0 b1 b4 b5 b6 eM) (cY.o.symm.trans (Cp r b.hQ i hlt));have eX:=fw.o b.hQ[i] (List.getElem_mem hlt);obtain⟨bH,bI⟩:=a' aD.o.cb;obtain⟨t,e2⟩:=iF (b.hQ[i]);rw [e2]at ht eC cz eX;have dH:=Hd ht;have cH:(0:Int)<=(i:Int):=(by omega);have cI:(i:Int)<(b.hQ.length:Int):=(by omega);clear ht e2 c0 c1 c2 av b0 b1 b4 b5 b6 eM cY f3;go_upto_region 17 with(fail);clear bH bI;refine qS (S:=OS w.heap.size [false,U0,I0,S0,S0,S0] [.int .i64 r.mode,.int .i64 r.depth,.int .i64 r.bl,.int .i64 r.bu,.int .i64 r.qu,r.iz,.int .i64 r.win,.int .i64 r.fin,r.work] (w.heap.size+1) [b.parent,.int .i64 b.f',b.hJ,b.work,b.e',.slice (some ⟨bR,off,none⟩) b.hQ.length xc] bR (off+i*10) [t.g5,.slice ma t.marks.length mc,.slice oa t.outs.length oc,t.iK,t.wd,t.jn,t.acc,t.e',.int .i64 t.exp,.slice pa t.proof.length pc]) (by kernel_rfl) (⟨aD.o.place,aD.o.rules,(a' aD.o.cb).1,eC.o⟩) (λhHeld=> ?_);go_simp;refine kL 0 ?_;go_simp;refine xp 1 rfl (pe (by rfl) _ _ rfl (w.heap.size) (0) rfl [false,U0,I0,S0,S0,S0] _ (λa9 ao=>ao.pl) underlying36 rfl (by kernel_rfl)) ?_;go_simp;refine kL 2 ?_;go_simp;refine xp 3 rfl (pe (by rfl) _ _ rfl (w.heap.size) (6) rfl [.int .i64 r.mode,.int .i64 r.depth,.int .i64 r.bl,.int .i64 r.bu,.int .i64 r.qu,r.iz,.int .i64 r.win,.int .i64 r.fin,r.work] _ (λa9 ao=>ao.ru) underlying26 rfl (by kernel_rfl)) ?_;go_simp;refine kL 4 ?_;go_simp;refine Gu 5 rfl (λa9 ao=>by have c1:=ao.c2;go_simp;all_goals with_reducible rfl) ?_;go_simp;refine kL 6 ?_;go_simp;refine kL 7 ?_;go_simp;refine xp 8 rfl (pe (by rfl) _ _ rfl (bR) (off+i*10) rfl [t.g5,.slice ma t.marks.length mc,.slice oa t.outs.length oc,t.iK,t.wd,t.jn,t.acc,t.e',.int .i64 t.exp,.slice pa t.proof.length pc] _ (λa9 ao=>ao.r3) underlying87 rfl (by kernel_rfl)) ?_;go_simp;refine l8 9 rfl (λK G=> ?_);go_simp;refine(Jc _ _ r fm.o t ma oa pa mc oc pc (dH.o.c' (Br wr).drew) eX).mono ?_;rintro e wq ⟨rfl,hbq⟩;have dT:=d' (Br wr).drew hbq;obtain⟨cN,ff⟩:=ik (aD.o.c' dT) (d' di.o dT);have f2:=hHeld.next (by have:=eH.o;exact jg (by omega) (Br wr).drew.size) (by have:=eH.o;exact jg (by omega) (Br wr).drew.size) hbq;clear hbq dT;clear hHeld;refine G.out _ _ (f2) (λhHeld=> ?_);clear G K;go_simp;refine kL 10 ?_;go_simp;refine mA (by as_aux_lemma=>kernel_rfl) ?_ _
     (try simp only [Exit.then])
     by_cases bG:kF r.depth r.bl r.bu r.qu r.iz r.win r.fin r.work t=0
     ·have fP:=Hd (cz.o.trans (g7 bG)).symm
      rw [bG];clear bG cz;have ah:wrap64 ((i:Int)+1)=(i:Int)+1:=(by have:=cL.o;unfold wrap64;omega);go_wp2_with fail;go_roundw
      case rel=>exact⟨i+1,by omega,by go_num,fP,ff⟩
      case measure=>first|(rw [ah];exact rW hlt (pb i))|exact rW hlt (pb i)
     ·have ab:Hi (l' r m b=kF r.depth r.bl r.bu r.qu r.iz r.win r.fin r.work t):=by
       have h1:=cz.o.trans (g3 bG);exact(Cs bX.o cn.o cP.o eg.o (by rw [h1];exact bG)).trans h1
      have au:(kF r.depth r.bl r.bu r.qu r.iz r.win r.fin r.work t != 0)=true:=(by rw [iB];exact bG);generalize kF r.depth r.bl r.bu r.qu r.iz r.win r.fin r.work t=E at*;have cv:Hi (E≠0):=bG;clear bG cz
      go_wp2_with (first
       |(refine kf rfl _ _ rfl w.heap.size rfl _ _ _ _ cN.o.cc underlying39 rfl (by kernel_rfl) ?_)
       |(refine kI rfl _ _ _ rfl (w.heap.size+2) _ rfl rfl _ _ cN.o.cr (by kernel_rfl) rfl (by kernel_rfl) ?_))
      (try simp only [Exit.inBlock,Exit.then])
      refine iQ (v:= .tuple #[.agg (mE false r la lc rc),I0,I0,.int .i64 E]) ?_ rfl (ov.bad ab.o cv.o cN.o.mx _);exact sy results10 rfl (kr _ _ _ _ _ _ cN.o.cr) underlying39 rfl (by kernel_rfl)
    ·obtain rfl:i=b.hQ.length:=by omega
     have fg:Hi (pJ r b.hQ=0):=(by have h1:=cY.o;rw [List.drop_length]at h1;exact h1.symm);have aU:Hi (wr.rangeAt w.heap.size 0 [false,U0,I0,S0,S0,S0,.int .i64 r.mode,.int .i64 r.depth,.int .i64 r.bl,.int .i64 r.bu,.int .i64 r.qu,r.iz,.int .i64 r.win,.int .i64 r.fin,r.work,.slice la rc.L.length lc,.int .i64 rc.lh,.int .i64 rc.fin]):=oN (a' aD.o.cc).1;have aV:Hi (wr.rangeAt (w.heap.size+1) 0 [b.parent,.int .i64 b.f',b.hJ,b.work,b.e',.slice xa b.hQ.length xc]):=oN (a' aD.o.cb).1;have dF:Hi (j6 r (kO rc.L (js rc.L rc.L.length p))):=(by show j6 _ _;rw [dj.o];exact(qi a2.o bC.o cP.o).2.2.2);obtain⟨aQ,cB⟩:=iF (kO rc.L (js rc.L rc.L.length p));have d9:=Hd cB;have fa:Hi (aQ=iG m.L (iI m.L b)):=cB.symm.trans dj.o;have dX:aQ.length=(js rc.L rc.L.length p).length:=(by rw [<-cB];exact List.length_map _);have dY:j6 r aQ:=(by rw [<-cB];exact dF.o);have ay:=mC bQ.o _ _ rfl dY;obtain⟨dy,dC,du,dA⟩:=oX ay.ok (Ii bQ.o _ _ rfl dY) ay.up ay.past;have bY:Hi (400*aQ.length<=80000/\aQ.length<=100000):=⟨by rw [dX];have:=dK.o;have:=aw.o;omega,by rw [dX];have:=dK.o;have:=aw.o;omega⟩;obtain⟨bH,bI⟩:=a' aD.o.cb;clear hlt hi cY cB dX dY ay;go_upto_region 20 with(fail);clear bH bI;go_cut [13,14]from 107 to 114 (λgJ gg wc=>gg= .int .i64 (jF r (jl r aQ) b)/\Hi (BW wr wc))
     case first=>
      refine qS (S:=nk wr w.heap.size 0 [false,U0,I0,S0,S0,S0,.int .i64 r.mode,.int .i64 r.depth,.int .i64 r.bl,.int .i64 r.bu,.int .i64 r.qu,r.iz,.int .i64 r.win,.int .i64 r.fin,r.work,.slice la rc.L.length lc,.int .i64 rc.lh,.int .i64 rc.fin] (w.heap.size+1) 0 [b.parent,.int .i64 b.f',b.hJ,b.work,b.e',.slice xa b.hQ.length xc]) (by kernel_rfl) (nk.of aU.o aV.o (Br wr).drew) (λhHeld=> ?_);go_simp;refine xp 0 rfl (pe (by rfl) _ _ rfl (w.heap.size) (0) rfl [false,U0,I0,S0,S0,S0,.int .i64 r.mode,.int .i64 r.depth,.int .i64 r.bl,.int .i64 r.bu,.int .i64 r.qu,r.iz,.int .i64 r.win,.int .i64 r.fin,r.work,.slice la rc.L.length lc,.int .i64 rc.lh,.int .i64 rc.fin] _ (λa9 ao=>ao.r1) underlying39 rfl (by kernel_rfl)) ?_;go_simp;refine kL 1 ?_;go_simp;refine xp 3 rfl (pe (by rfl) _ _ rfl (w.heap.size+1) (0) rfl [b.parent,.int .i64 b.f',b.hJ,b.work,b.e',.slice xa b.hQ.length xc] _ (λa9 ao=>ao.r2) underlying44 rfl (by kernel_rfl)) ?_;go_simp;refine kt 2 8 rfl rfl (λK G=> ?_) (λK G=> ?_)
      ·go_simp
       refine(rO _ _ false r bQ.o co.o rc la lc (jf.c' aD.o.tK (Br wr).drew) cV.o aw.o p a3.o.1 a3.o.2 dF.o).mono ?_;rw [d9.o];rintro e bw ⟨v,rfl,cF,bp⟩;obtain⟨aT,cX⟩:=ik (d' (Br wr).drew bp) cF;clear bp cF;clear hHeld;refine G.out _ _ (nk.of aU.o aV.o aT.o) (λhHeld=> ?_);clear G K;go_simp;refine kt 4 8 rfl rfl (λK G=> ?_) (λK G=> ?_)
       ·go_simp
        refine(rC _ _ r bQ.o co.o (jl r aQ) v cX.o _ dy.o (by have:=bY.o;omega) dC.o du.o (by have h1:=dA.o;have h2:=bY.o.2;omega) _ b xa xc (aD.o.blk.c' aT.o) cL.o).mono ?_;rintro e aC ⟨s2,v2,rfl, -,aW⟩;have aZ:=Hd (d' aT.o aW);clear aW;clear hHeld;refine G.out _ _ (nk.of aU.o aV.o aZ.o) (λhHeld=> ?_);clear G K;go_simp;refine kL 5 ?_;go_simp;refine kL 6 ?_;go_simp;refine kL 7 ?_;go_simp;refine l8 8 rfl (λK G=> ?_);go_simp;refine G.out _ _ (nk.of aU.o aV.o (hd aZ.o _)) (λhHeld=> ?_);clear G K;go_simp;have cp:Hi (wr.heap.size<=aC.heap.size):=aZ.o.size;have bB:Hi (∀cs,BW wr ((aC.alloc (.cells mo 58)).setRow aC.heap.size cs)):=λcs=>below_setRow (hd aZ.o (.cells mo 58)) (cp.o) cs;refine l8 9 rfl (λK G=> ?_);refine k6 rfl _ _ _ rfl _ _ rfl rfl _ _ (gY aC (.cells mo 58)) (by kernel_rfl) rfl (by kernel_rfl) ?_;refine G.out _ _ (nk.of aU.o aV.o (bB.o _)) (λhHeld=> ?_);clear G K;go_simp;refine kL 10 ?_;go_simp
        as_aux_lemma=>
         refine mA (by as_aux_lemma=>kernel_rfl) ?_ _
         (try simp only [Exit.then])
         go_wp2_with fail;go_meet
         case rel=>exact⟨rfl,bB.o _⟩
       ·go_simp
        refine G.out _ _ (nk.of aU.o aV.o (hd aT.o _)) (λhHeld=> ?_);clear G K;go_simp;refine l8 4 rfl (λK G=> ?_);go_simp;refine(rC _ _ r bQ.o co.o (jl r aQ) v (cX.o.c' (jc bw (.cells mo 58))) _ dy.o (by have:=bY.o;omega) dC.o du.o (by have h1:=dA.o;have h2:=bY.o.2;omega) _ b xa xc (aD.o.blk.c' (hd aT.o (.cells mo 58))) cL.o).mono ?_;rintro e aC ⟨s2,v2,rfl, -,aW⟩;have aZ:=Hd (d' (hd aT.o (.cells mo 58)) aW);have dk:=Hd (b' aW (gY bw (.cells mo 58)));clear aW;clear hHeld;refine G.out _ _ (nk.of aU.o aV.o aZ.o) (λhHeld=> ?_);clear G K;go_simp;refine kL 5 ?_;go_simp;refine kL 6 ?_;go_simp;refine kL 7 ?_;go_simp;have cp:Hi (wr.heap.size<=bw.heap.size):=aT.o.size;have bB:Hi (∀cs,BW wr (aC.setRow bw.heap.size cs)):=λcs=>below_setRow aZ.o (cp.o) cs;refine l8 9 rfl (λK G=> ?_);refine k6 rfl _ _ _ rfl _ _ rfl rfl _ _ dk.o (by kernel_rfl) rfl (by kernel_rfl) ?_;refine G.out _ _ (nk.of aU.o aV.o (bB.o _)) (λhHeld=> ?_);clear G K;go_simp;refine kL 10 ?_;go_simp
        as_aux_lemma=>
         refine mA (by as_aux_lemma=>kernel_rfl) ?_ _
         (try simp only [Exit.then])
         go_wp2_with fail;go_meet
         case rel=>exact⟨rfl,bB.o _⟩
      ·go_simp
       refine G.out _ _ (nk.of aU.o aV.o (hd (Br wr).drew _)) (λhHeld=> ?_);clear G K;go_simp;refine l8 2 rfl (λK G=> ?_);go_simp;refine(rO _ _ false r bQ.o co.o rc la lc (jf.c' aD.o.tK (hd (Br wr).drew (.cells mo 58))) cV.o aw.o p a3.o.1 a3.o.2 dF.o).mono ?_;rw [d9.o];rintro e bw ⟨v,rfl,cF,bp⟩;have aT:=Hd (d' (hd (Br wr).drew (.cells mo 58)) bp);have cX:=Hd cF;have fe:=Hd (b' bp (gY wr.drew (.cells mo 58)));clear bp cF;clear hHeld;refine G.out _ _ (nk.of aU.o aV.o aT.o) (λhHeld=> ?_);clear G K;go_simp;refine l8 4 rfl (λK G=> ?_);go_simp;refine(rC _ _ r bQ.o co.o (jl r aQ) v cX.o _ dy.o (by have:=bY.o;omega) dC.o du.o (by have h1:=dA.o;have h2:=bY.o.2;omega) _ b xa xc (aD.o.blk.c' aT.o) cL.o).mono ?_;rintro e aC ⟨s2,v2,rfl, -,aW⟩;obtain⟨aZ,dk⟩:=ik (d' aT.o aW) (b' aW fe.o);clear aW;clear hHeld;refine G.out _ _ (nk.of aU.o aV.o aZ.o) (λhHeld=> ?_);clear G K;go_simp;refine kL 5 ?_;go_simp;refine kL 6 ?_;go_simp;refine kL 7 ?_;go_simp;have cp:Hi (wr.heap.size<=wr.drew.heap.size):=uo (Br wr).drew;have bB:Hi (∀cs,BW wr (aC.setRow wr.drew.heap.size cs)):=λcs=>below_setRow aZ.o (cp.o) cs;refine l8 9 rfl (λK G=> ?_);refine k6 rfl _ _ _ rfl _ _ rfl rfl _ _ dk.o (by kernel_rfl) rfl (by kernel_rfl) ?_;refine G.out _ _ (nk.of aU.o aV.o (bB.o _)) (λhHeld=> ?_);clear G K;go_simp;refine kL 10 ?_;go_simp
       as_aux_lemma=>
        refine mA (by as_aux_lemma=>kernel_rfl) ?_ _
        (try simp only [Exit.then])
        go_wp2_with fail;go_meet
        case rel=>exact⟨rfl,bB.o _⟩
     obtain⟨rfl,aE⟩:=hcut;obtain⟨aC,f8⟩: ∃x,x=wc:=⟨_,rfl⟩;subst f8;have bi:=Hd (aD.o.c' aE.o);clear aE aD aU aV di bV;have dG:Hi (l' r m b=jF r (jl r aQ) b):=(by have h1:=sC (r:=r) bX.o cn.o cP.o eg.o fg.o;rw [<-fa.o]at h1;exact h1);by_cases a8:jF r (jl r aQ) b=0
     case neg=>
      as_aux_lemma=>
       have au:(jF r (jl r aQ) b != 0)=true:=(by rw [iB];exact a8);generalize jF r (jl r aQ) b=E at*;have cv:Hi (E≠0):=a8;clear a8
       go_wp2_with (first
        |(refine kf rfl _ _ rfl w.heap.size rfl _ _ _ _ bi.o.cc underlying39 rfl (by kernel_rfl) ?_)
        |(refine kI rfl _ _ _ rfl (w.heap.size+2) _ rfl rfl _ _ bi.o.cr (by kernel_rfl) rfl (by kernel_rfl) ?_))
       (try simp only [Exit.inBlock,Exit.then])
       refine iQ (v:= .tuple #[.agg (mE false r la lc rc),I0,I0,.int .i64 E]) ?_ rfl (ov.bad dG.o cv.o bi.o.mx _);exact sy results10 rfl (kr _ _ _ _ _ _ bi.o.cr) underlying39 rfl (by kernel_rfl)
     have dM:Hi (l' r m b=0):=dG.o.trans a8;rw [a8];clear a8 dG;have eF:Hi (su r m b):=sub_zero dM.o;obtain⟨bH,bI⟩:=a' bi.o.cb
     go_upto_region 24 with(first
      |(refine kf rfl _ _ rfl (w.heap.size+1) rfl _ _ _ _ bi.o.cb underlying44 rfl (by kernel_rfl) ?_)
      |(refine kI rfl _ _ _ rfl aC.heap.size _ rfl rfl _ _ (gY aC (.cells #[U0,I0,U0,U0,U0,S0,U0,I0,U0] 94)) (by kernel_rfl) rfl (by kernel_rfl) ?_))
     have da:=bi.o.size;obtain⟨dg,dd⟩:=iF ((aC.alloc (.cells #[U0,I0,U0,U0,U0,S0,U0,I0,U0] 94)).setRow aC.heap.size #[b.parent,.int .i64 b.f',b.hJ,b.work,b.e',.slice xa b.hQ.length xc,id,.int .i64 p,b.work]);have cg:Hi (nM r w SP SB la lc rc b xa xc dg):=by
      show nM _ _ _ _ _ _ _ _ _ _ _;rw [<-dd];exact(bi.o.c' (hd (g' _ _) _)).row da _
     have cA:Hi (dg.heap[aC.heap.size]? =some (.cells #[b.parent,.int .i64 b.f',b.hJ,b.work,b.e',.slice xa b.hQ.length xc,id,.int .i64 p,b.work] 94 (0,0))):=by
      show _=_;rw [<-dd];exact kr _ _ _ _ _ _ (gY aC _)
     rw [dd];obtain⟨X,eQ⟩:=iF (aC.heap.size);rw [eQ]at cA da⊢;have aF:Hi (w.heap.size+3<=X):=da;clear dd eQ da bH bI bi;go_upto_if 126 with(fail);go_cut [127]from 126 to 136 (λgI wc=>Hi (nM r w SP SB la lc rc b xa xc wc)/\Hi (wc.heap[X]? =some (.cells #[b.parent,.int .i64 b.f',b.hJ,b.work,b.e',.slice xa b.hQ.length xc,id,.int .i64 p,(uh rc b)] 94 (0,0))))
     case first=>
      by_cases cE:0<=p
      ·obtain⟨k,V⟩: ∃k:Nat,p=k:=⟨p.toNat,by omega⟩
       have bq:k<rc.L.length:=(by have:=a3.o.2;omega);have ab:Hi (uh rc b=jh (b.work+rc.L[k].jy)):=Hd (by unfold uh;rw [dB.o,g7 cE,V,tr _ _ bq]);have au:decide (0<=p)=true:=iP cE;subst V;obtain⟨bR,off,d5,d6,rfl,aj, -,c0,c1,c2,av,b0,b1,b4,b5,b6⟩:=o4 cg.o.tK k bq;obtain⟨bz,e7⟩:=iF (rc.L[k].jy);rw [e7]at ab b6;have gG:IntKind.u64.wrap (b.work+bz)=jh (b.work+bz):=jP _;have cH:(0:Int)<=(k:Int):=(by omega);have cI:(k:Int)<(rc.L.length:Int):=(by omega);obtain⟨bH,bI⟩:=a' cA.o;obtain⟨u0,u1⟩:=a' cg.o.cc;clear e7 c0 c1 c2 av b0 b1 b4 b5 cE;go_wp2_with fail;go_region
       all_goals
        go_wp2_with fail;go_meet
        case rel=>exact⟨(cg.o.c' (Br dg).drew).cell aF.o _ _,by rw [ab.o];exact h6 (b' (Br dg).drew cA.o)⟩
      ·have ab:Hi (uh rc b=b.work):=by show _=_;unfold uh;rw [dB.o,g3 cE]
       have au:decide (0<=p)=false:=iH cE;go_wp2_with fail;go_meet
       case rel=>exact⟨cg,by rw [ab.o];exact cA.o⟩
     obtain⟨bW,dL⟩:=hcut;obtain⟨gn,f9⟩: ∃x,x=wc:=⟨_,rfl⟩;subst f9;clear cg cA;have fR:Hi (uh rc b=lC m b):=Ba be.o a2.o bC.o a4.o;have fc:Hi (rj m b= !ng rc (iv b) (lC m b)):=Bl be.o a2.o cn.o;have fQ:Hi (iZ (lC m b)):=FW m b fd.o;obtain⟨jy,db⟩:=iF (uh rc b);have eI:=Hd db;rw [db]at dL;have dI:Hi (lC m b=jy):=fR.o.symm.trans db;clear db;obtain⟨u0,u1⟩:=a' bW.o.cc
     go_wp2_with (first
      |(refine kf rfl _ _ rfl w.heap.size rfl _ _ _ _ bW.o.cc underlying39 rfl (by kernel_rfl) ?_))
     refine(q6 _ false r rc la lc cV.o rc.L.length gn rc.lh ch.o.2.1 ch.o.1 ch.o.2.1 (by have:=aw.o;omega) bW.o.tK).mono ?_;rintro e U ⟨v,rfl,aX,dP⟩;obtain⟨oa,oc,rfl, -, -⟩:=iW aX;obtain⟨ai,bf⟩:=ik (bW.o.c' dP) (b' dP dL.o);have e0:=bW.o.size;obtain⟨l1,c8⟩:=iF (js rc.L rc.L.length rc.lh);have dD:=Hd c8;rw [c8]at aX⊢;have bj:Hi (jS.rel (λk=>w.heap.size+3<=k) U [.slice oa l1.length oc] l1):=jS.mono aX.slice λk _ V=>iu e0 V;have bO:Hi (l1.length<=100):=Hd (by rw [<-c8];have:=pR rc.L rc.L.length rc.lh;have:=aw.o;omega);have ag:Hi (U.rangeAt X 0 [b.parent,.int .i64 b.f',b.hJ,b.work,b.e',.slice xa b.hQ.length xc,id,.int .i64 p,jy]):=oN (a' bf.o).1;have aG:Hi (w.heap.size<=U.heap.size):=ai.o.mx.size;have bk:Hi (p4.rel (λk=>(SP k\/SB k)/\k<w.heap.size) U [b.parent,.int .i64 b.f',b.hJ,b.work,b.e',.slice xa b.hQ.length xc,id,.int .i64 p,jy] (⟨b,id,p,jy⟩:qb)):=p4.mk (s:=(⟨b,id,p,jy⟩:qb)) ⟨ai.o.blk.mono λk _ V=>⟨.inr V.1,V.2⟩,by rw [<-bM.o];exact C' b,fu.o,by rw [<-dI.o];exact fQ.o⟩;obtain⟨Z,a8⟩:=iF (rc.L++ [(⟨b,id,p,jy⟩:qb)]);have bm:=Hd a8;have bo:Hi (Z=ka rc b):=Hd (by rw [<-a8];unfold ka;rw [bM.o,dB.o,eI.o]);have bn:Hi (Z.length<=101):=Hd (by rw [<-a8,List.length_append];have:=aw.o;simp;omega);clear c8 aX dP e0 a8 u0 u1 bW dL;go_upto_region 27 with(fail);go_cut [141]from 141 to 148 (λgK wc=> ∃(R2:nL) (bt:Option Addr) (bv:Nat),Hi (R2=⟨ka rc b,rc.lh,rc.fin⟩)/\Hi (Gx r w SP SB bt bv R2 wc)/\Hi (wc.heap[X]? =some (.cells (tm b xa xc id p jy) 94 (0,0)))/\Hi (jS.rel (λk=>w.heap.size+3<=k) wc [.slice oa l1.length oc] l1))
     case first=>
      refine qS (S:=n9 X [b.parent,.int .i64 b.f',b.hJ,b.work,b.e',.slice xa b.hQ.length xc,id,.int .i64 p,jy]) (by kernel_rfl) (⟨ag.o⟩) (λhHeld=> ?_);go_simp;refine kL 1 ?_;go_simp;refine xp 4 rfl (pe (by rfl) _ _ rfl (X) (0) rfl [b.parent,.int .i64 b.f',b.hJ,b.work,b.e',.slice xa b.hQ.length xc,id,.int .i64 p,jy] _ (λa9 ao=>ao.r2) underlying94 rfl (by kernel_rfl)) ?_;go_simp;refine Sj 0 2 5 rfl rfl rfl (λK G=> ?_) (λK G=> ?_) (λK G=> ?_)
      ·go_simp
       clear hHeld;have hbq:=hd (Br U).drew (.cells #[] 94);refine G.out _ _ (n9.of ag.o hbq) (λhHeld=> ?_);clear G K;go_simp;obtain⟨aY,ah,cl,bO,dD⟩: ∃x,(U.alloc (.cells #[] 94)).drew=x/\Hi (BW U x)/\Hi (x.heap[U.heap.size]? =some (.cells #[] 94 (0,0)))/\Hi (BW U x):=⟨_,rfl,hbq,gY U (.cells #[] 94),hbq⟩;rw [ah]at hHeld⊢;have eD:=Hd (ii bO.o);clear ah hbq;refine kt 2 5 rfl rfl (λK G=> ?_) (λK G=> ?_)
       ·have u0: ∀o,(aY).cell? ⟨w.heap.size,o,none⟩=((mE false r la lc rc):Array Value)[o]? :=(a' (b' cl.o ai.o.cc)).1
        go_simp;clear u0;refine G.out _ _ hHeld (λhHeld=> ?_);clear G K;go_simp;refine kt 3 5 rfl rfl (λK G=> ?_) (λK G=> ?_)
        ·refine kB (r:=p4) (S:=(λk=>(SP k\/SB k)/\k<w.heap.size)) (B:=U.heap.size) (w0:=U) (v:= .slice (some ⟨U.heap.size,0,none⟩) 0 0) (u:= .slice la rc.L.length lc) rfl _ _ rfl lj (λk V=>jg V.2 aG.o) rfl rfl (List.nil_append _) cl.o (g9 _) ((Own.empty p4 U.heap.size 94 bO.o (g9 _)).mono (F':=λk=>((SP k\/SB k)/\k<w.heap.size)\/U.heap.size<=k) λj _ aN=> .inr (by have h1:U.heap.size<=U.heap.size:=g9 _;rw [aN];exact h1)) (Src.of_slice (jf.mono (jf.c' ai.o.tK cl.o) λk _ V=>⟨.inl V.1,V.2⟩)) (by have:=aw.o;omega) (by omega) ?_
         intro aM av az ap hb3 ax;obtain⟨aK,ak⟩:=ik ap hb3;clear ap hb3 ax hHeld;refine G.out _ _ (n9.of ag.o ak.o) (λhHeld=> ?_);clear G K;go_simp;refine l8 5 rfl (λK G=> ?_);go_simp;clear hHeld;have hbq:=hd ak.o (.cells (tm b xa xc id p jy) 94);refine G.out _ _ (n9.of ag.o hbq) (λhHeld=> ?_);clear G K;go_simp;obtain⟨gT,ah,ee,eu,fD⟩: ∃x,az.alloc (.cells (tm b xa xc id p jy) 94)=x/\Hi (BW U x)/\Hi (x.heap[az.heap.size]? =some (.cells (tm b xa xc id p jy) 94 (0,0)))/\Hi (BW az x):=⟨_,rfl,hbq,gY az (.cells (tm b xa xc id p jy) 94),jc az (.cells (tm b xa xc id p jy) 94)⟩;rw [ah]at hHeld⊢;have gD:=Hd (ii eu.o);clear ah hbq;have ft:=Hd (Own.c' aK.o fD.o);refine l8 6 rfl (λK G=> ?_);refine kB (r:=p4) (S:=(λk=>(SP k\/SB k)/\k<w.heap.size)) (B:=U.heap.size) (w0:=U) (v:= .slice aM rc.L.length av) (u:= .slice (some ⟨az.heap.size,0,none⟩) 1 1) rfl _ _ rfl lj (λk V=>jg V.2 aG.o) rfl rfl bm.o ee.o (g9 _) ft.o (Src.one (p4.c' bk.o ee.o) (kA eu.o)) (by have:=bn.o;omega) (by omega) ?_;intro ad ae ar aq aj _;obtain⟨aL,Y⟩:=ik aq aj;clear aq aj hHeld;refine G.out _ _ (n9.of ag.o Y.o) (λhHeld=> ?_);clear G K;go_simp;refine kL 7 ?_;go_simp;refine l8 8 rfl (λK G=> ?_);obtain⟨u0,u1⟩:=a' (b' Y.o ai.o.cc);go_simp;clear u0 u1;refine G.out _ _ (n9.put (q:=w.heap.size) (n9.of ag.o Y.o) (by have:=aF.o;omega) 15 _) (λhHeld=> ?_);clear G K hHeld;go_simp
         as_aux_lemma=>
          refine mA (by as_aux_lemma=>kernel_rfl) ?_ _
          (try simp only [Exit.then])
          obtain⟨R2,af⟩: ∃q:nL,q=⟨Z,rc.lh,rc.fin⟩:=⟨_,rfl⟩;have bL:Hi (R2.L=Z):=(by rw [af];rfl);have aH:=Hd (nM.J0 ai.o Y.o aL.o.slice af);have aJ:=Hd (hB (p:=⟨w.heap.size,15,none⟩) (v:= .slice ad Z.length ae) (b' Y.o bf.o) (by have:=aF.o;show X≠w.heap.size;omega));have aI:=Hd (jS.keep (jS.c' bj.o Y.o) ((h9 ar w.heap.size 15 (.slice ad Z.length ae)).mono λk _ V=>by have h1:w.heap.size+3<=k:=V;show k≠_;omega));have HR2:=Hd af;clear af;generalize ar.setCell ⟨w.heap.size,15,none⟩ (.slice ad Z.length ae)=bx at*;go_wp2_with fail;go_meet
          case rel=>exact⟨R2,ad,ae,by rw [HR2.o];exact congrArg (λz=>(⟨z,rc.lh,rc.fin⟩:nL)) bo.o,aH,aJ,aI⟩
        ·go_simp
         clear hHeld;have hbq:=hd cl.o (.cells (tm b xa xc id p jy) 94);refine G.out _ _ (n9.of ag.o hbq) (λhHeld=> ?_);clear G K;go_simp;obtain⟨gU,ah,ef,ev,fE⟩: ∃x,aY.alloc (.cells (tm b xa xc id p jy) 94)=x/\Hi (BW U x)/\Hi (x.heap[aY.heap.size]? =some (.cells (tm b xa xc id p jy) 94 (0,0)))/\Hi (BW aY x):=⟨_,rfl,hbq,gY aY (.cells (tm b xa xc id p jy) 94),jc aY (.cells (tm b xa xc id p jy) 94)⟩;rw [ah]at hHeld⊢;have fN:=Hd (ii ev.o);clear ah hbq;have fj:=Hd (b' fE.o bO.o);refine l8 3 rfl (λK G=> ?_);refine kB (r:=p4) (S:=(λk=>(SP k\/SB k)/\k<w.heap.size)) (B:=U.heap.size) (w0:=U) (v:= .slice (some ⟨U.heap.size,0,none⟩) 0 0) (u:= .slice la rc.L.length lc) rfl _ _ rfl lj (λk V=>jg V.2 aG.o) rfl rfl (List.nil_append _) ef.o (g9 _) ((Own.empty p4 U.heap.size 94 fj.o (g9 _)).mono (F':=λk=>((SP k\/SB k)/\k<w.heap.size)\/U.heap.size<=k) λj _ aN=> .inr (by have h1:U.heap.size<=U.heap.size:=g9 _;rw [aN];exact h1)) (Src.of_slice (jf.mono (jf.c' ai.o.tK ef.o) λk _ V=>⟨.inl V.1,V.2⟩)) (by have:=aw.o;omega) (by omega) ?_;intro aM av az ap hb3 ax;obtain⟨aK,ak⟩:=ik ap hb3;have a5:=Hd (hE ax ev.o (by simp only [Value.ownBlock];intro a7;simp at a7;have:=eD.o;have:=fN.o;omega));clear ap hb3 ax hHeld;refine G.out _ _ (n9.of ag.o ak.o) (λhHeld=> ?_);clear G K;go_simp;refine l8 6 rfl (λK G=> ?_);refine kB (r:=p4) (S:=(λk=>(SP k\/SB k)/\k<w.heap.size)) (B:=U.heap.size) (w0:=U) (v:= .slice aM rc.L.length av) (u:= .slice (some ⟨aY.heap.size,0,none⟩) 1 1) rfl _ _ rfl lj (λk V=>jg V.2 aG.o) rfl rfl bm.o ak.o (g9 _) aK.o (Src.one (p4.c' bk.o ak.o) (kA a5.o)) (by have:=bn.o;omega) (by omega) ?_;intro ad ae ar aq aj _;obtain⟨aL,Y⟩:=ik aq aj;clear aq aj hHeld;refine G.out _ _ (n9.of ag.o Y.o) (λhHeld=> ?_);clear G K;go_simp;refine kL 7 ?_;go_simp;refine l8 8 rfl (λK G=> ?_);obtain⟨u0,u1⟩:=a' (b' Y.o ai.o.cc);go_simp;clear u0 u1;refine G.out _ _ (n9.put (q:=w.heap.size) (n9.of ag.o Y.o) (by have:=aF.o;omega) 15 _) (λhHeld=> ?_);clear G K hHeld;go_simp
         as_aux_lemma=>
          refine mA (by as_aux_lemma=>kernel_rfl) ?_ _
          (try simp only [Exit.then])
          obtain⟨R2,af⟩: ∃q:nL,q=⟨Z,rc.lh,rc.fin⟩:=⟨_,rfl⟩;have bL:Hi (R2.L=Z):=(by rw [af];rfl);have aH:=Hd (nM.J0 ai.o Y.o aL.o.slice af);have aJ:=Hd (hB (p:=⟨w.heap.size,15,none⟩) (v:= .slice ad Z.length ae) (b' Y.o bf.o) (by have:=aF.o;show X≠w.heap.size;omega));have aI:=Hd (jS.keep (jS.c' bj.o Y.o) ((h9 ar w.heap.size 15 (.slice ad Z.length ae)).mono λk _ V=>by have h1:w.heap.size+3<=k:=V;show k≠_;omega));have HR2:=Hd af;clear af;generalize ar.setCell ⟨w.heap.size,15,none⟩ (.slice ad Z.length ae)=bx at*;go_wp2_with fail;go_meet
          case rel=>exact⟨R2,ad,ae,by rw [HR2.o];exact congrArg (λz=>(⟨z,rc.lh,rc.fin⟩:nL)) bo.o,aH,aJ,aI⟩
       ·go_simp
        clear hHeld;have hbq:=hd cl.o (.cells (tm b xa xc id p jy) 94);refine G.out _ _ (n9.of ag.o hbq) (λhHeld=> ?_);clear G K;go_simp;obtain⟨gq,ah,dl,em,fx⟩: ∃x,aY.alloc (.cells (tm b xa xc id p jy) 94)=x/\Hi (BW U x)/\Hi (x.heap[aY.heap.size]? =some (.cells (tm b xa xc id p jy) 94 (0,0)))/\Hi (BW aY x):=⟨_,rfl,hbq,gY aY (.cells (tm b xa xc id p jy) 94),jc aY (.cells (tm b xa xc id p jy) 94)⟩;rw [ah]at hHeld⊢;have fG:=Hd (ii em.o);clear ah hbq;have fh:=Hd (b' fx.o bO.o);refine l8 2 rfl (λK G=> ?_);have u0: ∀o,(gq).cell? ⟨w.heap.size,o,none⟩=((mE false r la lc rc):Array Value)[o]? :=(a' (b' dl.o ai.o.cc)).1;go_simp;clear u0;refine G.out _ _ hHeld (λhHeld=> ?_);clear G K;go_simp;refine l8 3 rfl (λK G=> ?_);refine kB (r:=p4) (S:=(λk=>(SP k\/SB k)/\k<w.heap.size)) (B:=U.heap.size) (w0:=U) (v:= .slice (some ⟨U.heap.size,0,none⟩) 0 0) (u:= .slice la rc.L.length lc) rfl _ _ rfl lj (λk V=>jg V.2 aG.o) rfl rfl (List.nil_append _) dl.o (g9 _) ((Own.empty p4 U.heap.size 94 fh.o (g9 _)).mono (F':=λk=>((SP k\/SB k)/\k<w.heap.size)\/U.heap.size<=k) λj _ aN=> .inr (by have h1:U.heap.size<=U.heap.size:=g9 _;rw [aN];exact h1)) (Src.of_slice (jf.mono (jf.c' ai.o.tK dl.o) λk _ V=>⟨.inl V.1,V.2⟩)) (by have:=aw.o;omega) (by omega) ?_;intro aM av az ap hb3 ax;obtain⟨aK,ak⟩:=ik ap hb3;have a5:=Hd (hE ax em.o (by simp only [Value.ownBlock];intro a7;simp at a7;have:=eD.o;have:=fG.o;omega));clear ap hb3 ax hHeld;refine G.out _ _ (n9.of ag.o ak.o) (λhHeld=> ?_);clear G K;go_simp;refine l8 6 rfl (λK G=> ?_);refine kB (r:=p4) (S:=(λk=>(SP k\/SB k)/\k<w.heap.size)) (B:=U.heap.size) (w0:=U) (v:= .slice aM rc.L.length av) (u:= .slice (some ⟨aY.heap.size,0,none⟩) 1 1) rfl _ _ rfl lj (λk V=>jg V.2 aG.o) rfl rfl bm.o ak.o (g9 _) aK.o (Src.one (p4.c' bk.o ak.o) (kA a5.o)) (by have:=bn.o;omega) (by omega) ?_;intro ad ae ar aq aj _;obtain⟨aL,Y⟩:=ik aq aj;clear aq aj hHeld;refine G.out _ _ (n9.of ag.o Y.o) (λhHeld=> ?_);clear G K;go_simp;refine kL 7 ?_;go_simp;refine l8 8 rfl (λK G=> ?_);obtain⟨u0,u1⟩:=a' (b' Y.o ai.o.cc);go_simp;clear u0 u1;refine G.out _ _ (n9.put (q:=w.heap.size) (n9.of ag.o Y.o) (by have:=aF.o;omega) 15 _) (λhHeld=> ?_);clear G K hHeld;go_simp
        as_aux_lemma=>
         refine mA (by as_aux_lemma=>kernel_rfl) ?_ _
         (try simp only [Exit.then])
         obtain⟨R2,af⟩: ∃q:nL,q=⟨Z,rc.lh,rc.fin⟩:=⟨_,rfl⟩;have bL:Hi (R2.L=Z):=(by rw [af];rfl);have aH:=Hd (nM.J0 ai.o Y.o aL.o.slice af);have aJ:=Hd (hB (p:=⟨w.heap.size,15,none⟩) (v:= .slice ad Z.length ae) (b' Y.o bf.o) (by have:=aF.o;show X≠w.heap.size;omega));have aI:=Hd (jS.keep (jS.c' bj.o Y.o) ((h9 ar w.heap.size 15 (.slice ad Z.length ae)).mono λk _ V=>by have h1:w.heap.size+3<=k:=V;show k≠_;omega));have HR2:=Hd af;clear af;generalize ar.setCell ⟨w.heap.size,15,none⟩ (.slice ad Z.length ae)=bx at*;go_wp2_with fail;go_meet
         case rel=>exact⟨R2,ad,ae,by rw [HR2.o];exact congrArg (λz=>(⟨z,rc.lh,rc.fin⟩:nL)) bo.o,aH,aJ,aI⟩
      ·have u0: ∀o,(U).cell? ⟨w.heap.size,o,none⟩=((mE false r la lc rc):Array Value)[o]? :=(a' (b' (Br U).drew ai.o.cc)).1
       go_simp;clear u0;refine G.out _ _ hHeld (λhHeld=> ?_);clear G K;go_simp;refine kt 0 5 rfl rfl (λK G=> ?_) (λK G=> ?_)
       ·go_simp
        clear hHeld;have hbq:=hd (Br U).drew (.cells #[] 94);refine G.out _ _ (n9.of ag.o hbq) (λhHeld=> ?_);clear G K;go_simp;obtain⟨cd,ah,dm,dv,gy⟩: ∃x,(U.alloc (.cells #[] 94)).drew=x/\Hi (BW U x)/\Hi (x.heap[U.heap.size]? =some (.cells #[] 94 (0,0)))/\Hi (BW U x):=⟨_,rfl,hbq,gY U (.cells #[] 94),hbq⟩;rw [ah]at hHeld⊢;have fH:=Hd (ii dv.o);clear ah hbq;refine kt 3 5 rfl rfl (λK G=> ?_) (λK G=> ?_)
        ·refine kB (r:=p4) (S:=(λk=>(SP k\/SB k)/\k<w.heap.size)) (B:=U.heap.size) (w0:=U) (v:= .slice (some ⟨U.heap.size,0,none⟩) 0 0) (u:= .slice la rc.L.length lc) rfl _ _ rfl lj (λk V=>jg V.2 aG.o) rfl rfl (List.nil_append _) dm.o (g9 _) ((Own.empty p4 U.heap.size 94 dv.o (g9 _)).mono (F':=λk=>((SP k\/SB k)/\k<w.heap.size)\/U.heap.size<=k) λj _ aN=> .inr (by have h1:U.heap.size<=U.heap.size:=g9 _;rw [aN];exact h1)) (Src.of_slice (jf.mono (jf.c' ai.o.tK dm.o) λk _ V=>⟨.inl V.1,V.2⟩)) (by have:=aw.o;omega) (by omega) ?_
         intro aM av az ap hb3 ax;obtain⟨aK,ak⟩:=ik ap hb3;clear ap hb3 ax hHeld;refine G.out _ _ (n9.of ag.o ak.o) (λhHeld=> ?_);clear G K;go_simp;refine l8 5 rfl (λK G=> ?_);go_simp;clear hHeld;have hbq:=hd ak.o (.cells (tm b xa xc id p jy) 94);refine G.out _ _ (n9.of ag.o hbq) (λhHeld=> ?_);clear G K;go_simp;obtain⟨gP,ah,ea,en,fy⟩: ∃x,az.alloc (.cells (tm b xa xc id p jy) 94)=x/\Hi (BW U x)/\Hi (x.heap[az.heap.size]? =some (.cells (tm b xa xc id p jy) 94 (0,0)))/\Hi (BW az x):=⟨_,rfl,hbq,gY az (.cells (tm b xa xc id p jy) 94),jc az (.cells (tm b xa xc id p jy) 94)⟩;rw [ah]at hHeld⊢;have gC:=Hd (ii en.o);clear ah hbq;have fq:=Hd (Own.c' aK.o fy.o);refine l8 6 rfl (λK G=> ?_);refine kB (r:=p4) (S:=(λk=>(SP k\/SB k)/\k<w.heap.size)) (B:=U.heap.size) (w0:=U) (v:= .slice aM rc.L.length av) (u:= .slice (some ⟨az.heap.size,0,none⟩) 1 1) rfl _ _ rfl lj (λk V=>jg V.2 aG.o) rfl rfl bm.o ea.o (g9 _) fq.o (Src.one (p4.c' bk.o ea.o) (kA en.o)) (by have:=bn.o;omega) (by omega) ?_;intro ad ae ar aq aj _;obtain⟨aL,Y⟩:=ik aq aj;clear aq aj hHeld;refine G.out _ _ (n9.of ag.o Y.o) (λhHeld=> ?_);clear G K;go_simp;refine kL 7 ?_;go_simp;refine l8 8 rfl (λK G=> ?_);obtain⟨u0,u1⟩:=a' (b' Y.o ai.o.cc);go_simp;clear u0 u1;refine G.out _ _ (n9.put (q:=w.heap.size) (n9.of ag.o Y.o) (by have:=aF.o;omega) 15 _) (λhHeld=> ?_);clear G K hHeld;go_simp
         as_aux_lemma=>
          refine mA (by as_aux_lemma=>kernel_rfl) ?_ _
          (try simp only [Exit.then])
          obtain⟨R2,af⟩: ∃q:nL,q=⟨Z,rc.lh,rc.fin⟩:=⟨_,rfl⟩;have bL:Hi (R2.L=Z):=(by rw [af];rfl);have aH:=Hd (nM.J0 ai.o Y.o aL.o.slice af);have aJ:=Hd (hB (p:=⟨w.heap.size,15,none⟩) (v:= .slice ad Z.length ae) (b' Y.o bf.o) (by have:=aF.o;show X≠w.heap.size;omega));have aI:=Hd (jS.keep (jS.c' bj.o Y.o) ((h9 ar w.heap.size 15 (.slice ad Z.length ae)).mono λk _ V=>by have h1:w.heap.size+3<=k:=V;show k≠_;omega));have HR2:=Hd af;clear af;generalize ar.setCell ⟨w.heap.size,15,none⟩ (.slice ad Z.length ae)=bx at*;go_wp2_with fail;go_meet
          case rel=>exact⟨R2,ad,ae,by rw [HR2.o];exact congrArg (λz=>(⟨z,rc.lh,rc.fin⟩:nL)) bo.o,aH,aJ,aI⟩
        ·go_simp
         clear hHeld;have hbq:=hd dm.o (.cells (tm b xa xc id p jy) 94);refine G.out _ _ (n9.of ag.o hbq) (λhHeld=> ?_);clear G K;go_simp;obtain⟨gQ,ah,eb,eo,fz⟩: ∃x,cd.alloc (.cells (tm b xa xc id p jy) 94)=x/\Hi (BW U x)/\Hi (x.heap[cd.heap.size]? =some (.cells (tm b xa xc id p jy) 94 (0,0)))/\Hi (BW cd x):=⟨_,rfl,hbq,gY cd (.cells (tm b xa xc id p jy) 94),jc cd (.cells (tm b xa xc id p jy) 94)⟩;rw [ah]at hHeld⊢;have fI:=Hd (ii eo.o);clear ah hbq;have fi:=Hd (b' fz.o dv.o);refine l8 3 rfl (λK G=> ?_);refine kB (r:=p4) (S:=(λk=>(SP k\/SB k)/\k<w.heap.size)) (B:=U.heap.size) (w0:=U) (v:= .slice (some ⟨U.heap.size,0,none⟩) 0 0) (u:= .slice la rc.L.length lc) rfl _ _ rfl lj (λk V=>jg V.2 aG.o) rfl rfl (List.nil_append _) eb.o (g9 _) ((Own.empty p4 U.heap.size 94 fi.o (g9 _)).mono (F':=λk=>((SP k\/SB k)/\k<w.heap.size)\/U.heap.size<=k) λj _ aN=> .inr (by have h1:U.heap.size<=U.heap.size:=g9 _;rw [aN];exact h1)) (Src.of_slice (jf.mono (jf.c' ai.o.tK eb.o) λk _ V=>⟨.inl V.1,V.2⟩)) (by have:=aw.o;omega) (by omega) ?_;intro aM av az ap hb3 ax;obtain⟨aK,ak⟩:=ik ap hb3;have a5:=Hd (hE ax eo.o (by simp only [Value.ownBlock];intro a7;simp at a7;have:=fH.o;have:=fI.o;omega));clear ap hb3 ax hHeld;refine G.out _ _ (n9.of ag.o ak.o) (λhHeld=> ?_);clear G K;go_simp;refine l8 6 rfl (λK G=> ?_);refine kB (r:=p4) (S:=(λk=>(SP k\/SB k)/\k<w.heap.size)) (B:=U.heap.size) (w0:=U) (v:= .slice aM rc.L.length av) (u:= .slice (some ⟨cd.heap.size,0,none⟩) 1 1) rfl _ _ rfl lj (λk V=>jg V.2 aG.o) rfl rfl bm.o ak.o (g9 _) aK.o (Src.one (p4.c' bk.o ak.o) (kA a5.o)) (by have:=bn.o;omega) (by omega) ?_;intro ad ae ar aq aj _;obtain⟨aL,Y⟩:=ik aq aj;clear aq aj hHeld;refine G.out _ _ (n9.of ag.o Y.o) (λhHeld=> ?_);clear G K;go_simp;refine kL 7 ?_;go_simp;refine l8 8 rfl (λK G=> ?_);obtain⟨u0,u1⟩:=a' (b' Y.o ai.o.cc);go_simp;clear u0 u1;refine G.out _ _ (n9.put (q:=w.heap.size) (n9.of ag.o Y.o) (by have:=aF.o;omega) 15 _) (λhHeld=> ?_);clear G K hHeld;go_simp
         as_aux_lemma=>
          refine mA (by as_aux_lemma=>kernel_rfl) ?_ _
          (try simp only [Exit.then])
          obtain⟨R2,af⟩: ∃q:nL,q=⟨Z,rc.lh,rc.fin⟩:=⟨_,rfl⟩;have bL:Hi (R2.L=Z):=(by rw [af];rfl);have aH:=Hd (nM.J0 ai.o Y.o aL.o.slice af);have aJ:=Hd (hB (p:=⟨w.heap.size,15,none⟩) (v:= .slice ad Z.length ae) (b' Y.o bf.o) (by have:=aF.o;show X≠w.heap.size;omega));have aI:=Hd (jS.keep (jS.c' bj.o Y.o) ((h9 ar w.heap.size 15 (.slice ad Z.length ae)).mono λk _ V=>by have h1:w.heap.size+3<=k:=V;show k≠_;omega));have HR2:=Hd af;clear af;generalize ar.setCell ⟨w.heap.size,15,none⟩ (.slice ad Z.length ae)=bx at*;go_wp2_with fail;go_meet
          case rel=>exact⟨R2,ad,ae,by rw [HR2.o];exact congrArg (λz=>(⟨z,rc.lh,rc.fin⟩:nL)) bo.o,aH,aJ,aI⟩
       ·go_simp
        clear hHeld;have hbq:=hd (Br U).drew (.cells (tm b xa xc id p jy) 94);refine G.out _ _ (n9.of ag.o hbq) (λhHeld=> ?_);clear G K;go_simp;obtain⟨bU,ah,dn,ep,gz⟩: ∃x,(U.alloc (.cells (tm b xa xc id p jy) 94)).drew=x/\Hi (BW U x)/\Hi (x.heap[U.heap.size]? =some (.cells (tm b xa xc id p jy) 94 (0,0)))/\Hi (BW U x):=⟨_,rfl,hbq,gY U (.cells (tm b xa xc id p jy) 94),hbq⟩;rw [ah]at hHeld⊢;have fJ:=Hd (ii ep.o);clear ah hbq;refine l8 0 rfl (λK G=> ?_);go_simp;clear hHeld;have hbq:=hd dn.o (.cells #[] 94);refine G.out _ _ (n9.of ag.o hbq) (λhHeld=> ?_);clear G K;go_simp;obtain⟨gR,ah,ec,er,fA⟩: ∃x,bU.alloc (.cells #[] 94)=x/\Hi (BW U x)/\Hi (x.heap[bU.heap.size]? =some (.cells #[] 94 (0,0)))/\Hi (BW bU x):=⟨_,rfl,hbq,gY bU (.cells #[] 94),jc bU (.cells #[] 94)⟩;rw [ah]at hHeld⊢;have fK:=Hd (ii er.o);clear ah hbq;have fS:=Hd (b' fA.o ep.o);refine l8 3 rfl (λK G=> ?_);refine kB (r:=p4) (S:=(λk=>(SP k\/SB k)/\k<w.heap.size)) (B:=U.heap.size) (w0:=U) (v:= .slice (some ⟨bU.heap.size,0,none⟩) 0 0) (u:= .slice la rc.L.length lc) rfl _ _ rfl lj (λk V=>jg V.2 aG.o) rfl rfl (List.nil_append _) ec.o (g9 _) ((Own.empty p4 U.heap.size 94 er.o (uo dn.o)).mono (F':=λk=>((SP k\/SB k)/\k<w.heap.size)\/U.heap.size<=k) λj _ aN=> .inr (by have h1:U.heap.size<=bU.heap.size:=uo dn.o;rw [aN];exact h1)) (Src.of_slice (jf.mono (jf.c' ai.o.tK ec.o) λk _ V=>⟨.inl V.1,V.2⟩)) (by have:=aw.o;omega) (by omega) ?_;intro aM av az ap hb3 ax;obtain⟨aK,ak⟩:=ik ap hb3;have a5:=Hd (hE ax fS.o (by simp only [Value.ownBlock];intro a7;simp at a7;have:=fJ.o;have:=fK.o;omega));clear ap hb3 ax hHeld;refine G.out _ _ (n9.of ag.o ak.o) (λhHeld=> ?_);clear G K;go_simp;refine l8 6 rfl (λK G=> ?_);refine kB (r:=p4) (S:=(λk=>(SP k\/SB k)/\k<w.heap.size)) (B:=U.heap.size) (w0:=U) (v:= .slice aM rc.L.length av) (u:= .slice (some ⟨U.heap.size,0,none⟩) 1 1) rfl _ _ rfl lj (λk V=>jg V.2 aG.o) rfl rfl bm.o ak.o (g9 _) aK.o (Src.one (p4.c' bk.o ak.o) (kA a5.o)) (by have:=bn.o;omega) (by omega) ?_;intro ad ae ar aq aj _;obtain⟨aL,Y⟩:=ik aq aj;clear aq aj hHeld;refine G.out _ _ (n9.of ag.o Y.o) (λhHeld=> ?_);clear G K;go_simp;refine kL 7 ?_;go_simp;refine l8 8 rfl (λK G=> ?_);obtain⟨u0,u1⟩:=a' (b' Y.o ai.o.cc);go_simp;clear u0 u1;refine G.out _ _ (n9.put (q:=w.heap.size) (n9.of ag.o Y.o) (by have:=aF.o;omega) 15 _) (λhHeld=> ?_);clear G K hHeld;go_simp
        as_aux_lemma=>
         refine mA (by as_aux_lemma=>kernel_rfl) ?_ _
         (try simp only [Exit.then])
         obtain⟨R2,af⟩: ∃q:nL,q=⟨Z,rc.lh,rc.fin⟩:=⟨_,rfl⟩;have bL:Hi (R2.L=Z):=(by rw [af];rfl);have aH:=Hd (nM.J0 ai.o Y.o aL.o.slice af);have aJ:=Hd (hB (p:=⟨w.heap.size,15,none⟩) (v:= .slice ad Z.length ae) (b' Y.o bf.o) (by have:=aF.o;show X≠w.heap.size;omega));have aI:=Hd (jS.keep (jS.c' bj.o Y.o) ((h9 ar w.heap.size 15 (.slice ad Z.length ae)).mono λk _ V=>by have h1:w.heap.size+3<=k:=V;show k≠_;omega));have HR2:=Hd af;clear af;generalize ar.setCell ⟨w.heap.size,15,none⟩ (.slice ad Z.length ae)=bx at*;go_wp2_with fail;go_meet
         case rel=>exact⟨R2,ad,ae,by rw [HR2.o];exact congrArg (λz=>(⟨z,rc.lh,rc.fin⟩:nL)) bo.o,aH,aJ,aI⟩
      ·go_simp
       clear hHeld;have hbq:=hd (Br U).drew (.cells (tm b xa xc id p jy) 94);refine G.out _ _ (n9.of ag.o hbq) (λhHeld=> ?_);clear G K;go_simp;obtain⟨aO,ah,bK,dw,gA⟩: ∃x,(U.alloc (.cells (tm b xa xc id p jy) 94)).drew=x/\Hi (BW U x)/\Hi (x.heap[U.heap.size]? =some (.cells (tm b xa xc id p jy) 94 (0,0)))/\Hi (BW U x):=⟨_,rfl,hbq,gY U (.cells (tm b xa xc id p jy) 94),hbq⟩;rw [ah]at hHeld⊢;have eE:=Hd (ii dw.o);clear ah hbq;refine kt 0 2 rfl rfl (λK G=> ?_) (λK G=> ?_)
       ·go_simp
        clear hHeld;have hbq:=hd bK.o (.cells #[] 94);refine G.out _ _ (n9.of ag.o hbq) (λhHeld=> ?_);clear G K;go_simp;obtain⟨gr,ah,dp,es,fB⟩: ∃x,aO.alloc (.cells #[] 94)=x/\Hi (BW U x)/\Hi (x.heap[aO.heap.size]? =some (.cells #[] 94 (0,0)))/\Hi (BW aO x):=⟨_,rfl,hbq,gY aO (.cells #[] 94),jc aO (.cells #[] 94)⟩;rw [ah]at hHeld⊢;have fL:=Hd (ii es.o);clear ah hbq;have fT:=Hd (b' fB.o dw.o);refine l8 2 rfl (λK G=> ?_);have u0: ∀o,(gr).cell? ⟨w.heap.size,o,none⟩=((mE false r la lc rc):Array Value)[o]? :=(a' (b' dp.o ai.o.cc)).1;go_simp;clear u0;refine G.out _ _ hHeld (λhHeld=> ?_);clear G K;go_simp;refine l8 3 rfl (λK G=> ?_);refine kB (r:=p4) (S:=(λk=>(SP k\/SB k)/\k<w.heap.size)) (B:=U.heap.size) (w0:=U) (v:= .slice (some ⟨aO.heap.size,0,none⟩) 0 0) (u:= .slice la rc.L.length lc) rfl _ _ rfl lj (λk V=>jg V.2 aG.o) rfl rfl (List.nil_append _) dp.o (g9 _) ((Own.empty p4 U.heap.size 94 es.o (uo bK.o)).mono (F':=λk=>((SP k\/SB k)/\k<w.heap.size)\/U.heap.size<=k) λj _ aN=> .inr (by have h1:U.heap.size<=aO.heap.size:=uo bK.o;rw [aN];exact h1)) (Src.of_slice (jf.mono (jf.c' ai.o.tK dp.o) λk _ V=>⟨.inl V.1,V.2⟩)) (by have:=aw.o;omega) (by omega) ?_;intro aM av az ap hb3 ax;obtain⟨aK,ak⟩:=ik ap hb3;have a5:=Hd (hE ax fT.o (by simp only [Value.ownBlock];intro a7;simp at a7;have:=eE.o;have:=fL.o;omega));clear ap hb3 ax hHeld;refine G.out _ _ (n9.of ag.o ak.o) (λhHeld=> ?_);clear G K;go_simp;refine l8 6 rfl (λK G=> ?_);refine kB (r:=p4) (S:=(λk=>(SP k\/SB k)/\k<w.heap.size)) (B:=U.heap.size) (w0:=U) (v:= .slice aM rc.L.length av) (u:= .slice (some ⟨U.heap.size,0,none⟩) 1 1) rfl _ _ rfl lj (λk V=>jg V.2 aG.o) rfl rfl bm.o ak.o (g9 _) aK.o (Src.one (p4.c' bk.o ak.o) (kA a5.o)) (by have:=bn.o;omega) (by omega) ?_;intro ad ae ar aq aj _;obtain⟨aL,Y⟩:=ik aq aj;clear aq aj hHeld;refine G.out _ _ (n9.of ag.o Y.o) (λhHeld=> ?_);clear G K;go_simp;refine kL 7 ?_;go_simp;refine l8 8 rfl (λK G=> ?_);obtain⟨u0,u1⟩:=a' (b' Y.o ai.o.cc);go_simp;clear u0 u1;refine G.out _ _ (n9.put (q:=w.heap.size) (n9.of ag.o Y.o) (by have:=aF.o;omega) 15 _) (λhHeld=> ?_);clear G K hHeld;go_simp
        as_aux_lemma=>
         refine mA (by as_aux_lemma=>kernel_rfl) ?_ _
         (try simp only [Exit.then])
         obtain⟨R2,af⟩: ∃q:nL,q=⟨Z,rc.lh,rc.fin⟩:=⟨_,rfl⟩;have bL:Hi (R2.L=Z):=(by rw [af];rfl);have aH:=Hd (nM.J0 ai.o Y.o aL.o.slice af);have aJ:=Hd (hB (p:=⟨w.heap.size,15,none⟩) (v:= .slice ad Z.length ae) (b' Y.o bf.o) (by have:=aF.o;show X≠w.heap.size;omega));have aI:=Hd (jS.keep (jS.c' bj.o Y.o) ((h9 ar w.heap.size 15 (.slice ad Z.length ae)).mono λk _ V=>by have h1:w.heap.size+3<=k:=V;show k≠_;omega));have HR2:=Hd af;clear af;generalize ar.setCell ⟨w.heap.size,15,none⟩ (.slice ad Z.length ae)=bx at*;go_wp2_with fail;go_meet
         case rel=>exact⟨R2,ad,ae,by rw [HR2.o];exact congrArg (λz=>(⟨z,rc.lh,rc.fin⟩:nL)) bo.o,aH,aJ,aI⟩
       ·have u0: ∀o,(aO).cell? ⟨w.heap.size,o,none⟩=((mE false r la lc rc):Array Value)[o]? :=(a' (b' bK.o ai.o.cc)).1
        go_simp;clear u0;refine G.out _ _ hHeld (λhHeld=> ?_);clear G K;go_simp;refine l8 0 rfl (λK G=> ?_);go_simp;clear hHeld;have hbq:=hd bK.o (.cells #[] 94);refine G.out _ _ (n9.of ag.o hbq) (λhHeld=> ?_);clear G K;go_simp;obtain⟨gS,ah,ed,et,fC⟩: ∃x,aO.alloc (.cells #[] 94)=x/\Hi (BW U x)/\Hi (x.heap[aO.heap.size]? =some (.cells #[] 94 (0,0)))/\Hi (BW aO x):=⟨_,rfl,hbq,gY aO (.cells #[] 94),jc aO (.cells #[] 94)⟩;rw [ah]at hHeld⊢;have fM:=Hd (ii et.o);clear ah hbq;have fU:=Hd (b' fC.o dw.o);refine l8 3 rfl (λK G=> ?_);refine kB (r:=p4) (S:=(λk=>(SP k\/SB k)/\k<w.heap.size)) (B:=U.heap.size) (w0:=U) (v:= .slice (some ⟨aO.heap.size,0,none⟩) 0 0) (u:= .slice la rc.L.length lc) rfl _ _ rfl lj (λk V=>jg V.2 aG.o) rfl rfl (List.nil_append _) ed.o (g9 _) ((Own.empty p4 U.heap.size 94 et.o (uo bK.o)).mono (F':=λk=>((SP k\/SB k)/\k<w.heap.size)\/U.heap.size<=k) λj _ aN=> .inr (by have h1:U.heap.size<=aO.heap.size:=uo bK.o;rw [aN];exact h1)) (Src.of_slice (jf.mono (jf.c' ai.o.tK ed.o) λk _ V=>⟨.inl V.1,V.2⟩)) (by have:=aw.o;omega) (by omega) ?_;intro aM av az ap hb3 ax;obtain⟨aK,ak⟩:=ik ap hb3;have a5:=Hd (hE ax fU.o (by simp only [Value.ownBlock];intro a7;simp at a7;have:=eE.o;have:=fM.o;omega));clear ap hb3 ax hHeld;refine G.out _ _ (n9.of ag.o ak.o) (λhHeld=> ?_);clear G K;go_simp;refine l8 6 rfl (λK G=> ?_);refine kB (r:=p4) (S:=(λk=>(SP k\/SB k)/\k<w.heap.size)) (B:=U.heap.size) (w0:=U) (v:= .slice aM rc.L.length av) (u:= .slice (some ⟨U.heap.size,0,none⟩) 1 1) rfl _ _ rfl lj (λk V=>jg V.2 aG.o) rfl rfl bm.o ak.o (g9 _) aK.o (Src.one (p4.c' bk.o ak.o) (kA a5.o)) (by have:=bn.o;omega) (by omega) ?_;intro ad ae ar aq aj _;obtain⟨aL,Y⟩:=ik aq aj;clear aq aj hHeld;refine G.out _ _ (n9.of ag.o Y.o) (λhHeld=> ?_);clear G K;go_simp;refine kL 7 ?_;go_simp;refine l8 8 rfl (λK G=> ?_);obtain⟨u0,u1⟩:=a' (b' Y.o ai.o.cc);go_simp;clear u0 u1;refine G.out _ _ (n9.put (q:=w.heap.size) (n9.of ag.o Y.o) (by have:=aF.o;omega) 15 _) (λhHeld=> ?_);clear G K hHeld;go_simp
        as_aux_lemma=>
         refine mA (by as_aux_lemma=>kernel_rfl) ?_ _
         (try simp only [Exit.then])
         obtain⟨R2,af⟩: ∃q:nL,q=⟨Z,rc.lh,rc.fin⟩:=⟨_,rfl⟩;have bL:Hi (R2.L=Z):=(by rw [af];rfl);have aH:=Hd (nM.J0 ai.o Y.o aL.o.slice af);have aJ:=Hd (hB (p:=⟨w.heap.size,15,none⟩) (v:= .slice ad Z.length ae) (b' Y.o bf.o) (by have:=aF.o;show X≠w.heap.size;omega));have aI:=Hd (jS.keep (jS.c' bj.o Y.o) ((h9 ar w.heap.size 15 (.slice ad Z.length ae)).mono λk _ V=>by have h1:w.heap.size+3<=k:=V;show k≠_;omega));have HR2:=Hd af;clear af;generalize ar.setCell ⟨w.heap.size,15,none⟩ (.slice ad Z.length ae)=bx at*;go_wp2_with fail;go_meet
         case rel=>exact⟨R2,ad,ae,by rw [HR2.o];exact congrArg (λz=>(⟨z,rc.lh,rc.fin⟩:nL)) bo.o,aH,aJ,aI⟩
     obtain⟨R2,bt,bv,HR2,cj,eK,ew⟩:=hcut;obtain⟨bx,ga⟩: ∃x,x=wc:=⟨_,rfl⟩;subst ga;clear ai bf bj ag bk bm bo bn;have dt:Hi (R2.L=ka rc b):=Hd (by rw [HR2.o]);have cT:Hi (R2.L.length=rc.L.length+1):=Hd (by rw [dt.o];exact q4 rc b);have dH:Hi (R2.lh=rc.lh):=Hd (by rw [HR2.o]);have fk:Hi (R2.fin=rc.fin):=Hd (by rw [HR2.o]);obtain⟨aP,c9⟩:=iF (rc.L.length);have bP:=Hd c9;rw [c9]at cT
     (try rw [c9])
     have cZ:wrap64 ((R2.L.length:Int)-1)=(aP:Int):=(by have:=cT.o;have:=aw.o;unfold wrap64;omega);have u0:=(a' cj.o.cc).1;clear c9;go_upto_region 29 with(fail);rw [cZ];clear cZ u0;go_cut [190]from 153 to 190 (λgh wc=>gh= .bool (ng rc id jy)/\Hi (BW bx wc))
     case first=>
      have br:ng rc id jy=decide (0<=rc.lh/\(jy<xA rc.L rc.lh\/(xA rc.L rc.lh=jy/\r7 rc.L rc.lh<id))):=rfl;obtain⟨bH,bI⟩:=a' eK.o;obtain⟨u0,u1⟩:=a' cj.o.cc;have cG:=dH.o;by_cases ht:0<=rc.lh
      ·obtain⟨k,V⟩: ∃k:Nat,rc.lh=k:=⟨rc.lh.toNat,by omega⟩
       have bq:k<rc.L.length:=(by have:=ch.o.2.1;omega);have eV:k<R2.L.length:=(by rw [cT.o];have:=bP.o;omega);obtain⟨bR,off,d5,d6,rfl,aj, -,c0,c1,c2,av,b0,b1,b4,b5,b6⟩:=o4 cj.o.tK k eV;have bS:R2.L[k]=rc.L[k]:=(by simp only [dt.o];exact kz k bq);rw [bS]at b4 b6;rw [V,tr _ _ bq,yg _ _ bq]at br;rw [V]at cG
       (try unfold mE at u0)
       rw [cG]at u0;generalize rc.L[k].jy=bz at*;generalize rc.L[k].id=gv at*
       have au:decide ((0:Int)<=(k:Int))=true:=iP (by omega);have cH:(0:Int)<=(k:Int):=(by omega);have cI:(k:Int)<(R2.L.length:Int):=(by omega);clear c0 c1 c2 av b0 b1 b5 aj bS cG eV V ht;by_cases a6:jy<bz
       ·have ab:Hi (ng rc id jy=true):=by show _=_;rw [br,jk];exact⟨by omega,.inl a6⟩
        have cK:decide (jy<bz)=true:=iP a6;clear br;go_region
        all_goals
         go_wp2_with fail;go_meet
         case rel=>exact⟨by rw [ab.o],(g' _ _).drew⟩
       ·have cK:decide (jy<bz)=false:=iH a6
        by_cases bD:bz=jy
        ·have d7:(bz==jy)=true:=by rw [iO];exact bD
         have ab:Hi (ng rc id jy=decide (gv<id)):=Hd (by rw [br,sr];omega);clear br bD;go_region
         all_goals
          go_wp2_with fail;go_meet
          case rel=>exact⟨by rw [ab.o],(g' _ _).drew⟩
        ·have d7:(bz==jy)=false:=by rw [je];exact bD
         have ab:Hi (ng rc id jy=false):=Hd (by rw [br,pg];omega);clear br;go_region
         all_goals
          go_wp2_with fail;go_meet
          case rel=>exact⟨by rw [ab.o],(g' _ _).drew⟩
      ·have ab:Hi (ng rc id jy=false):=by show _=_;rw [br,pg];exact λh=>ht h.1
       have au:decide (0<=rc.lh)=false:=iH ht
       (try unfold mE at u0)
       rw [cG]at u0;clear br cG;go_region
       all_goals
        go_wp2_with fail;go_meet
        case rel=>exact⟨by rw [ab.o],(g' _ _).drew⟩
     obtain⟨rfl,aE⟩:=hcut;obtain⟨d2,gb⟩: ∃x,x=wc:=⟨_,rfl⟩;subst gb;obtain⟨bJ,ex⟩:=ik (cj.o.c' aE.o) (jS.c' ew.o aE.o);clear aE cj eK ew;have eJ:Hi (ng rc (iv b) (uh rc b)=ng rc id jy):=Hd (by rw [bM.o,eI.o])
     cases b9:ng rc id jy with
     |true=>
      as_aux_lemma=>
       have fO:Hi (ui r rc b=R2):=Hd (by unfold ui;rw [eJ.o,g7 b9,HR2.o]);have ei:Hi (tO m b=0/\tP m b=0):=by
        have h1:=fc.o;rw [dI.o,bM.o,b9]at h1;unfold tO tP;rw [g3 (by rw [h1];simp),g3 (by rw [h1];simp)];exact⟨rfl,rfl⟩
       clear b9
       go_wp2_with (first
        |(refine kf rfl _ _ rfl w.heap.size rfl _ _ _ _ bJ.o.cc underlying39 rfl (by kernel_rfl) ?_)
        |(refine kI rfl _ _ _ rfl (w.heap.size+2) _ rfl rfl _ _ bJ.o.cr (by kernel_rfl) rfl (by kernel_rfl) ?_))
       (try simp only [Exit.inBlock,Exit.then])
       refine iQ (v:= .tuple #[.agg (mE false r bt bv R2),I0,I0,I0]) ?_ rfl (ov.good dM.o fO.o (by rw [ei.o.1]) (by rw [ei.o.2]) bJ.o _);exact sy results10 rfl (kr _ _ _ _ _ _ bJ.o.cr) underlying39 rfl (by kernel_rfl)
     |false=>
      have e3:ng rc (iv b) (lC m b)=false:=(by rw [bM.o,dI.o];exact b9);have eh:=Hd (KW be.o a2.o eF.o e3);clear e3;obtain⟨u0,u1⟩:=a' bJ.o.cc;have d8:=Hd (bJ.o.store (oW:=⟨R2.L,aP,R2.fin⟩) 16 (.int .i64 aP) rfl rfl);go_upto_region 32 with(fail);obtain⟨R3,b7⟩: ∃q:nL,q=⟨R2.L,aP,R2.fin⟩:=⟨_,rfl⟩;have eA:=Hd b7;have ck:Hi (Gx r w SP SB bt bv R3 (d2.setCell ⟨w.heap.size,16,none⟩ (.int .i64 aP))):=(by rw [b7];exact d8);have ey:=Hd (jS.keep ex.o ((h9 d2 w.heap.size 16 (.int .i64 aP)).mono λk _ V=>by have h1:w.heap.size+3<=k:=V;show k≠_;omega));generalize d2.setCell ⟨w.heap.size,16,none⟩ (.int .i64 aP)=gp at*
      have cq:Hi (R3.L=ka rc b):=Hd (by rw [b7];exact dt.o);have bN:Hi (R3.L.length=aP+1):=Hd (by rw [b7];exact cT.o);have ej:Hi (R3.fin=rc.fin):=Hd (by rw [b7];exact fk.o);have ez:Hi (xJ R3.L):=(by show xJ _;rw [cq.o];exact(FY be.o a2.o eF.o a4.o bC.o none 0).zU);clear u0 u1 d8 bJ ex b7
      go_wp2_with (first
       |(refine kf rfl _ _ rfl w.heap.size rfl _ _ _ _ ck.o.cc underlying39 rfl (by kernel_rfl) ?_))
      refine(q6 _ false r R3 bt bv ez.o R3.L.length gp aP (by have:=bN.o;omega) (by omega) (by have:=bN.o;omega) (by have:=bN.o;have:=aw.o;have:=bP.o;omega) ck.o.tK).mono ?_;rintro e bT ⟨v,rfl,aX,dQ⟩;obtain⟨de,df,rfl, -, -⟩:=iW aX;obtain⟨bb,cw⟩:=ik (ck.o.c' dQ) (jS.c' ey.o dQ);have e1:=ck.o.size;obtain⟨l2,cC⟩:=iF (js R3.L R3.L.length aP);have dE:Hi (js (ka rc b) (ka rc b).length rc.L.length=l2):=Hd (by rw [<-cC,cq.o,bP.o]);rw [cC]at aX⊢;have cy:Hi (jS.rel (λk=>w.heap.size+3<=k) bT [.slice de l2.length df] l2):=jS.mono aX.slice λk _ V=>iu e1 V;have cu:Hi (l2.length<=101):=Hd (by rw [<-cC];have:=pR R3.L R3.L.length aP;have:=bN.o;have:=aw.o;have:=bP.o;omega);have gx:Hi (∀x∈l2,0<=x/\x<aP+1):=λx e4=>(by rw [<-cC]at e4;have h1:=sB ez.o R3.L.length aP (by omega) (by have:=bN.o;omega) x e4;have:=bN.o;omega);clear cC aX dQ e1 ck ey;have f0:=eB.o.1;have f1:=eB.o.2;obtain⟨u0,u1⟩:=a' bb.o.cc;have cZ:wrap64 ((l2.length:Int)-1)=(l2.length:Int)-1:=(by have:=cu.o;unfold wrap64;omega);have eN:wrap64 ((l2.length:Int)-1-r.fin)=(l2.length:Int)-1-r.fin:=(by have:=cu.o;unfold wrap64;omega);go_upto_region 34 with(fail);rw [eN];obtain⟨al,dW⟩:=iF ((l2.length:Int)-1-r.fin);have el:=Hd dW;have ek:Hi (-2000000<=al/\al<=100/\al<l2.length):=(by have:=cu.o;refine⟨?_,?_,?_⟩<;>omega);rw [dW];have fn:Hi (0<=R3.fin->R3.fin<aP+1):=λh=>(by have:=ej.o;have:=ch.o.2.2.2;have:=bP.o;omega);clear dW cZ eN u0 u1 f0 f1;go_cut [223]from 204 to 223 (λgi wc=>gi= .bool (decide (0<=al/\(R3.fin<0\/mW R3.L R3.fin<al+1)))/\Hi (BW bT wc))
      case first=>
       obtain⟨u0,u1⟩:=a' bb.o.cc;have dV:=ek.o;have gF:wrap64 (al+1)=al+1:=(by unfold wrap64;omega);by_cases a6:0<=al
       ·have au:decide (0<=al)=true:=iP a6
        by_cases bD:R3.fin<0
        ·have ab:Hi (decide (0<=al/\(R3.fin<0\/mW R3.L R3.fin<al+1))=true):=iP ⟨a6,.inl bD⟩
         have cK:decide (R3.fin<0)=true:=iP bD;clear dV;go_wp2_with fail;go_meet
         case rel=>exact⟨by rw [ab.o],g' _ _⟩
        ·obtain⟨k,V⟩: ∃k:Nat,R3.fin=k:=⟨R3.fin.toNat,by omega⟩
         have bq:k<R3.L.length:=(by have h1:=fn.o (by omega);have:=bN.o;omega);obtain⟨bR,off,d5,d6,rfl,aj, -,c0,c1, -⟩:=o4 bb.o.tK k bq;have ab:Hi (decide (0<=al/\(R3.fin<0\/mW R3.L R3.fin<al+1))=decide (R3.L[k].b.f'<al+1)):=by
          show _=_;rw [sr,V,tw _ _ bq];exact⟨λh=>by rcases h.2 with h|h;omega;exact h,λh=>⟨a6,.inr h⟩⟩
         (try unfold mE at u0)
         rw [V]at u0;have cK:decide ((k:Int)<0)=false:=iH (by omega);have cH:(0:Int)<=(k:Int):=(by omega);have cI:(k:Int)<(R3.L.length:Int):=(by omega);obtain⟨gu,e6⟩:=iF (R3.L[k].b.f');rw [e6]at ab c1;clear V e6 c0 aj dV;go_wp2_with fail;go_meet
         case rel=>exact⟨by rw [ab.o],g' _ _⟩
       ·have ab:Hi (decide (0<=al/\(R3.fin<0\/mW R3.L R3.fin<al+1))=false):=iH λh=>a6 h.1
        have au:decide (0<=al)=false:=iH a6;clear dV;go_wp2_with fail;go_meet
        case rel=>exact⟨by rw [ab.o],g' _ _⟩
      obtain⟨rfl,aE⟩:=hcut;obtain⟨e8,gf⟩: ∃x,x=wc:=⟨_,rfl⟩;subst gf;obtain⟨cO,dx,cU⟩:=kT (bb.o.c' aE.o) (jS.c' cw.o aE.o) (jS.c' cy.o aE.o);have dr:Hi (Ec r (ka rc b) l2 rc.fin=if 0<=al/\(R3.fin<0\/mW R3.L R3.fin<al+1)then l2.getD al.toNat 0 else R3.fin):=by
       show _=_;unfold Ec;rw [el.o,cq.o,ej.o,show(l2.length:Int)-r.fin=al+1 by have:=el.o;omega]
      have eG:Hi (ui r rc b=⟨ka rc b,rc.L.length,Ec r (ka rc b) l2 rc.fin⟩):=Hd (by unfold ui;rw [eJ.o,g3 (by rw [b9];simp),dE.o]);clear aE bb cw cy b9;go_upto_if 223 with(fail);go_cut [227]from 223 to 228 (λgL wc=> ∃bg:nL,Hi (bg=ui r rc b)/\Hi (Gx r w SP SB bt bv bg wc)/\Hi (jS.rel (λk=>w.heap.size+3<=k) wc [.slice oa l1.length oc] l1)/\Hi (jS.rel (λk=>w.heap.size+3<=k) wc [.slice de l2.length df] l2))
      case first=>
       by_cases b8:0<=al/\(R3.fin<0\/mW R3.L R3.fin<al+1)
       ·obtain⟨q,bS⟩: ∃q:Nat,al=q:=⟨al.toNat,by omega⟩
        have eY:q<l2.length:=(by have:=ek.o;omega);obtain⟨gE,gH,rfl, -,c0⟩:=ints_at cU.o q eY;have cQ:Hi (Ec r (ka rc b) l2 rc.fin=l2[q]):=Hd (by rw [dr.o,g7 b8,bS,jJ,List.getD_eq_getElem?_getD,List.getElem?_eq_getElem eY];rfl);have au:decide (0<=al/\(R3.fin<0\/mW R3.L R3.fin<al+1))=true:=iP b8;obtain⟨cJ,e5⟩:=iF (l2[q]);rw [e5]at cQ c0;have fb:=Hd (cO.o.store (oW:=⟨R3.L,R3.lh,cJ⟩) 17 (.int .i64 cJ) rfl rfl);have fp:=Hd (jS.keep dx.o ((h9 e8 w.heap.size 17 (.int .i64 cJ)).mono λk _ V=>by have h1:w.heap.size+3<=k:=V;show k≠_;omega));have fv:=Hd (jS.keep cU.o ((h9 e8 w.heap.size 17 (.int .i64 cJ)).mono λk _ V=>by have h1:w.heap.size+3<=k:=V;show k≠_;omega));have cH:(0:Int)<=(q:Int):=(by omega);have cI:(q:Int)<(l2.length:Int):=(by omega);obtain⟨u0,u1⟩:=a' cO.o.cc;rw [au];subst bS;clear b8 e5 au;go_wp2_with fail;go_meet
        case rel=>exact⟨⟨R3.L,R3.lh,cJ⟩,by show _=_;rw [eG.o,cQ.o,cq.o,eA.o,bP.o],fb,fp,fv⟩
       ·have au:decide (0<=al/\(R3.fin<0\/mW R3.L R3.fin<al+1))=false:=iH b8
        have cQ:Hi (Ec r (ka rc b) l2 rc.fin=R3.fin):=Hd (by rw [dr.o,g3 b8]);rw [au];clear b8 au;go_wp2_with fail;go_meet
        case rel=>exact⟨R3,by show _=_;rw [eG.o,cQ.o,cq.o.symm,bP.o];rw [eA.o],cO,dx,cU⟩
      obtain⟨bg,fF,bb,cw,cy⟩:=hcut;obtain⟨bT,gd⟩: ∃x,x=wc:=⟨_,rfl⟩;subst gd;clear cO dx cU dr;go_upto_region 36 with(fail);refine qS (S:=n9 w.heap.size [false,U0,I0,S0,S0,S0,.int .i64 r.mode,.int .i64 r.depth,.int .i64 r.bl,.int .i64 r.bu,.int .i64 r.qu,r.iz,.int .i64 r.win,.int .i64 r.fin,r.work,.slice bt bg.L.length bv,.int .i64 bg.lh,.int .i64 bg.fin]) (by kernel_rfl) (n9.of (oN (a' bb.o.cc).1) (Br bT).drew) (λhHeld=> ?_);go_simp;refine xp 0 rfl (pe (by rfl) _ _ rfl (w.heap.size) (0) rfl [false,U0,I0,S0,S0,S0,.int .i64 r.mode,.int .i64 r.depth,.int .i64 r.bl,.int .i64 r.bu,.int .i64 r.qu,r.iz,.int .i64 r.win,.int .i64 r.fin,r.work,.slice bt bg.L.length bv,.int .i64 bg.lh,.int .i64 bg.fin] _ (λa9 ao=>ao.r2) underlying39 rfl (by kernel_rfl)) ?_;go_simp;refine kL 1 ?_;go_simp;refine kL 2 ?_;go_simp;refine kL 4 ?_;go_simp;refine kL 5 ?_;go_simp;refine l8 3 rfl (λK G=> ?_);go_simp;refine(Go.Proofs.YtpkldapfgcjdcaaGreatDoor.u7 _ _ _ oa de l1.length oc l2.length df l1 l2 rfl rfl (jS.c' cw.o (Br bT).drew) (jS.c' cy.o (Br bT).drew) (by have:=bO.o;omega) (by have:=cu.o;omega)).mono ?_;rintro e gN ⟨rfl,eS⟩;have dR:=d' (Br bT).drew eS;have dh:=Hd dR;have fY:=n9.of (oN (a' bb.o.cc).1) dR;clear eS dR;clear hHeld;refine G.out _ _ (fY) (λhHeld=> ?_);clear G K;go_simp;refine l8 6 rfl (λK G=> ?_);go_simp;refine(Go.Proofs.YtpkldapfgcjdcaaGreatDoor.u7 _ _ _ de oa l2.length df l1.length oc l2 l1 rfl rfl (jS.c' cy.o dh.o) (jS.c' cw.o dh.o) (by have:=cu.o;omega) (by have:=bO.o;omega)).mono ?_;rintro e gO ⟨rfl,eT⟩;have c5:=d' dh.o eT;obtain⟨gw,dq⟩:=ik c5 (bb.o.c' c5);have fZ:=n9.of (oN (a' bb.o.cc).1) c5;clear eT c5;clear hHeld;refine G.out _ _ (fZ) (λhHeld=> ?_);clear G K;go_simp;refine l8 7 rfl (λK G=> ?_);refine k6 rfl _ _ _ rfl (w.heap.size+2) _ rfl rfl _ _ dq.o.cr (by kernel_rfl) rfl (by kernel_rfl) ?_;refine G.out _ _ (hHeld.row (q:=w.heap.size+2) (by omega) _) (λhHeld=> ?_);clear G K;go_simp;refine kL 8 ?_;go_simp;refine kL 9 ?_;go_simp;refine kL 10 ?_;go_simp;refine mA (by as_aux_lemma=>kernel_rfl) ?_ _
      (try simp only [Exit.then])
      go_wp2_with fail
      (try simp only [Exit.inBlock,Exit.then])
      refine iQ (v:= .tuple #[.agg (mE false r bt bv bg),.int .i64 (tR l1 l2),.int .i64 (tR l2 l1),I0]) ?_ rfl (ov.good dM.o fF.o.symm (by rw [<-eh.o.1,<-dD.o,<-dE.o]) (by rw [<-eh.o.2,<-dD.o,<-dE.o]) dq.o _);exact sy results10 rfl (kr _ _ _ _ _ _ dq.o.cr) underlying39 rfl (by kernel_rfl)
end Go.Proofs.YtpkldapfgcjdcaaGreatDoor
