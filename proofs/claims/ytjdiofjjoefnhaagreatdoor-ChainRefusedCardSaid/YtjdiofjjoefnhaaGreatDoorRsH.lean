/- The reference's Submit: its walk up to the new block. -/
import Derived.Test.YtjdiofjjoefnhaaGreatDoorMRp
set_option maxRecDepth 100000
set_option maxHeartbeats 8000000
namespace Go.Proofs.YtjdiofjjoefnhaaGreatDoor
open Tryz Go.ChangeShapes Go.WideShapes Go.ChangeAt Go.RowKit Go.Sort
structure OS (B1:Nat)(l0 l1:List Value)(B2:Nat)(l2:List Value)(b3 o3:Nat)(l3:List Value)(w':World):Prop where
 pl:w'.rangeAt B1 0 l0
 ru:w'.rangeAt B1 6 l1
 c2: ∀i,w'.cell? ⟨B2,i,none⟩=(List.toArray l2)[i]?
 r3:w'.rangeAt b3 o3 l3
theorem OS.next {B1 B2 b3 o3:Nat}{l0 l1 l2 l3:List Value}{w w':World}(h:OS B1 l0 l1 B2 l2 b3 o3 l3 w)(_h1:B1<w.heap.size)(h2:B2<w.heap.size)(j:BW w w'):OS B1 l0 l1 B2 l2 b3 o3 l3 w':=
 ⟨mj h.pl j,mj h.ru j,λi=>by rw [<-h.c2 i];exact TL (w:=w) (j.block B2 h2),mj h.r3 j⟩
theorem nM.place {r:i4}{w0 w:World}{SP SB:UO}{la:UP}{lc:Nat}{rc:nL}{b:hV}{xa:UP}{xc:Nat}(h:nM r w0 SP SB la lc rc b xa xc w):w.rangeAt w0.heap.size 0 UX:=λj v u=>by
 have y:=(a' h.cc).1
 match j with
 |0=>simp at u;subst u;rw [y];rfl
 |1=>simp at u;subst u;rw [y];rfl
 |2=>simp at u;subst u;rw [y];rfl
 |3=>simp at u;subst u;rw [y];rfl
 |4=>simp at u;subst u;rw [y];rfl
 |5=>simp at u;subst u;rw [y];rfl
 |j+6=>simp at u
theorem lj:jj prog 37 94 9 88:=jj.of underlying37 (z:= .agg #[U0,I0,U0,U0,U0,S0,U0,I0,U0]) UQ rfl UN
structure n9 (X:Nat)(l:List Value)(w':World):Prop where
 r2:w'.rangeAt X 0 l
theorem n9.of {X:Nat}{l:List Value}{w w':World}(h:w.rangeAt X 0 l)(j:BW w w'):n9 X l w':=⟨mj h j⟩
theorem n9.put {X q:Nat}{l:List Value}{w:World}(h:n9 X l w)(y:X≠q)(i:Nat)(u:Value):n9 X l (w.setCell ⟨q,i,none⟩ u):=
 ⟨λj v z=>by rw [<-h.r2 j v z];exact TL (w:=w) (Below.heap_setCell w ⟨q,i,none⟩ u X y)⟩
theorem oN {w:World}{B:Nat}{l:List Value}(h: ∀o,w.cell? ⟨B,o,none⟩=(List.toArray l)[o]?):w.rangeAt B 0 l:=λj v u=>by rw [nC,h];simpa using u
theorem kA {w:World}{b:Nat}{cs:List Value}{t:TypeId}(h:w.heap[b]? =some (.cells cs.toArray t (0,0))):jx w b 0 cs:=λj c u=>by
 rw [nC,(a' h).1];simpa using u
theorem n9.row {X q:Nat}{l:List Value}{w:World}(h:n9 X l w)(u:X≠q)(cs:Array Value):n9 X l (w.setRow q cs):=
 ⟨λj v y=>by rw [<-h.r2 j v y];exact TL (w:=w) (setRow_other w q X cs u)⟩
theorem lO.row {w0 w:World}{B g:Nat}{l:List Value}(h:lO w0 B l w)(u:w0.heap.size<=g)(j:B≠g)(cs:Array Value):lO w0 B l (w.setRow g cs):=
 ⟨below_setRow h.mx u _,λo=>by rw [<-h.Lh o];exact TL (w:=w) (setRow_other w g _ cs j)⟩
section
variable {r:i4} {w0 w w':World} {SP SB:UO} {la:UP} {lc:Nat} {rc oW:nL} {b:hV} {xa:UP} {xc:Nat}
theorem nM.cell (h:nM r w0 SP SB la lc rc b xa xc w){q:Nat}(y:w0.heap.size+3<=q)(i:Nat)(u:Value):nM r w0 SP SB la lc rc b xa xc (w.setCell ⟨q,i,none⟩ u):=
 ⟨hB h.cc (by show _≠q;omega),hB h.cb (by show _≠q;omega),hB h.cr (by show _≠q;omega),jf.keep h.tK ((h9 _ _ _ _).mono λk _ j=>by have h1:=j.2;show k≠_;omega),
  ⟨h.blk.parent,h.blk.f',h.blk.hJ,h.blk.work,h.blk.e',my.keep h.blk.hQ ((h9 _ _ _ _).mono λk _ j=>by have h1:=j.2;show k≠_;omega)⟩,j4 h.mx UN _ (by have:=h.size;omega)⟩
theorem nM.J0 (h:nM r w0 SP SB la lc rc b xa xc w)(z:BW w w'){u:UP}{y:Nat}{Z:List qb}(G:jf.rel (λk=>((SP k\/SB k)/\k<w0.heap.size)\/w.heap.size<=k) w' [.slice u Z.length y] Z)(hr:oW=⟨Z,rc.lh,rc.fin⟩):
 Gx r w0 SP SB u y oW (w'.setCell ⟨w0.heap.size,15,none⟩ (.slice u Z.length y)):=by
 have K:=h.size;have j:=h.c' z;subst hr;exact⟨h6 j.cc,hB j.cr (by show _≠w0.heap.size;omega),(jf.keep (jf.mono G (S':=Gz SP SB w0.heap.size) λk _ j=>by rcases j with j|j;exact .inl j;exact .inr UN) ((h9 _ _ _ _).mono λk _ j=>by have h1:Gz SP SB w0.heap.size k:=j;show k≠_;rcases h1 with⟨-,h1⟩|h1<;>omega)),j4 j.mx (g9 _) _ (by have:=j.size;omega)⟩
end
theorem Dy (SP SB:UO)(w:World)(r:i4)(hr:oo r)(eW:r.mode=2)(eU:r.depth<=11)(m:k7)(ok:lE r m)(rc:nL)(sm:lD m rc)(f4:m.L.length<=99)(la:UP)(lc:Nat)(h:jf.rel SP w [.slice la rc.L.length lc] rc.L)(b:hV)(xa:UP)(xc:Nat)(bD:i7 SB w b xa xc)(eZ: ∀t∈b.hQ,t.proof.length<=1000000)(eP:b.hQ.length<=64):
 Calls prog 9 #[.agg (mE false r la lc rc),.agg (jI b xa xc)] w (ov r m rc b la lc SP SB w):=by
 obtain⟨eL,b2,b3⟩:=vu w (.cells (mE false r la lc rc) 39) (.cells (jI b xa xc) 44) (.cells pn 39);have c4:=hd (hd (jc w (.cells (mE false r la lc rc) 39)) (.cells (jI b xa xc) 44)) (.cells pn 39)
 have ce:Hi (nM r w SP SB la lc rc b xa xc (((w.alloc (.cells (mE false r la lc rc) 39)).alloc (.cells (jI b xa xc) 44)).alloc (.cells pn 39))):=
  ⟨eL,b2,b3,jf.c' (jf.bound h) c4,⟨bD.parent,bD.f',bD.hJ,bD.work,bD.e',my.c' (my.bound bD.hQ) c4⟩,c4⟩
 obtain⟨bP,fm,co,a2,be,cV,fw,cL⟩:=Mb hr eW eU ok sm sm.zU eZ eP;have aw:Hi (rc.L.length<=100):=Hd (by rw [sm.len];omega);have gB:Hi (rc.L.length<=99):=Hd (by rw [sm.len];omega);obtain⟨ch,fd⟩:=ik sm.bounds bD.work;have eB:Hi (0<=r.fin/\r.fin<=1048576):=⟨by have:=hr.f0;omega,hr.f1⟩;clear eL b2 b3 c4 hr eW eU ok sm f4 h bD eZ eP;go_in;go_upto_region 1 with(fail);generalize (((w.alloc (.cells (mE false r la lc rc) 39)).alloc (.cells (jI b xa xc) 44)).alloc (.cells pn 39))=W at*
 go_wp2_with (first
  |(refine wpList_load_mid rfl _ _ rfl w.heap.size 6 rfl (UW r) _ ce.o.rules underlying26 rfl UQ ?_)
  |(refine kf rfl _ _ rfl (w.heap.size+1) rfl _ _ _ _ ce.o.cb underlying44 rfl UQ ?_))
 refine UR (zu _ W r b xa xc ce.o.blk) λw1 hb1=> ?_;have bz:=Hd (ce.o.c' hb1);clear hb1 ce;by_cases V:iN r.work b=0
 case neg=>
  as_aux_lemma=>
   have ab:Hi (l' r m b=iN r.work b):=Cu V;have au:(iN r.work b != 0)=true:=(by rw [iB];exact V);generalize iN r.work b=E at*;have cv:Hi (E≠0):=V;clear V
   go_wp2_with (first
    |(refine kf rfl _ _ rfl w.heap.size rfl _ _ _ _ bz.o.cc underlying39 rfl UQ ?_)
    |(refine kI rfl _ _ _ rfl (w.heap.size+2) _ rfl rfl _ _ bz.o.cr UQ rfl UQ ?_))
   (try simp only [Exit.inBlock,Exit.then])
   refine iQ (v:= .tuple #[.agg (mE false r la lc rc),I0,I0,UZ E]) ?_ rfl (ov.bad ab.o cv.o bz.o.mx _);exact sy results9 rfl (kr _ _ _ _ _ _ bz.o.cr) underlying39 rfl UQ
 have bW:=Hd V;rw [V];clear V
 go_wp2_with (first
  |(refine kf rfl _ _ rfl (w.heap.size+1) rfl _ _ _ _ bz.o.cb underlying44 rfl UQ ?_))
 refine UR (t6 _ w1 b xa xc bz.o.blk) λw2 hb2=> ?_;have cM:=Hd (bz.o.c' hb2);obtain⟨id,dU⟩:=iF (iv b);have bL:=Hd dU;rw [dU];clear hb2 bz dU
 go_wp2_with (first
  |(refine kf rfl _ _ rfl w.heap.size rfl _ _ _ _ cM.o.cc underlying39 rfl UQ ?_))
 refine UR (yP _ w2 false r rc la lc cM.o.tK id) λgl hb3=> ?_;obtain⟨a0,cR⟩:=ik (cM.o.c' hb3) (Jy be.o a2.o id);obtain⟨y,hy⟩:=iF (qe rc.L id);rw [hy]at cR⊢;clear hb3 cM hy;by_cases cD:0<=y
 case pos=>
  as_aux_lemma=>
   have ab:Hi (l' r m b=5):=xY bW.o (by rw [bL.o];exact cR.o.1 cD);have au:decide (0<=y)=true:=iP cD
   go_wp2_with (first
    |(refine kf rfl _ _ rfl w.heap.size rfl _ _ _ _ a0.o.cc underlying39 rfl UQ ?_)
    |(refine kI rfl _ _ _ rfl (w.heap.size+2) _ rfl rfl _ _ a0.o.cr UQ rfl UQ ?_))
   (try simp only [Exit.inBlock,Exit.then])
   refine iQ (v:= .tuple #[.agg (mE false r la lc rc),I0,I0,UZ 5]) ?_ rfl (ov.bad ab.o UN a0.o.mx _);exact sy results9 rfl (kr _ _ _ _ _ _ a0.o.cr) underlying39 rfl UQ
 have cn:Hi (iA m.L (iv b)=none):=by
  show _=_;rw [bL.o]
  cases bR:iA m.L id with
  |none=>rfl
  |some e=>exact absurd (cR.o.2 (by rw [bR];rfl)) cD
 have au:decide (0<=y)=false:=iH cD;have bB:Hi (1<=b.f'):=(kQ (kX bW.o).1).1;have fl:=Hd a0.o.blk.f';clear cR;obtain⟨d3,d4⟩:=a' a0.o.cb;go_upto_if 37 with(fail);clear cD au;go_cut [10]from 37 (λv10 wc=>v10= UZ (m7 rc b)/\Hi (nM r w SP SB la lc rc b xa xc wc))
 case first=>
  by_cases h1:1<b.f'
  ·have ab:Hi (m7 rc b=qe rc.L b.parent):=g7 h1
   have au:decide (1<b.f')=true:=iP h1
   go_wp2_with (first
    |(refine kf rfl _ _ rfl w.heap.size rfl _ _ _ _ a0.o.cc underlying39 rfl UQ ?_))
   refine UR (yP _ gl false r rc la lc a0.o.tK b.parent) λgM eR=> ?_;have e9:=Hd (a0.o.c' eR);clear eR d3 d4;go_wp2;go_meet
   case rel=>exact⟨by rw [ab.o],e9⟩
  ·have ab:Hi (m7 rc b= -1):=g3 h1
   have au:decide (1<b.f')=false:=iH h1;clear d3 d4;go_wp2;go_meet
   case rel=>exact⟨by rw [ab.o],a0⟩
 obtain⟨rfl,cf⟩:=hcut;obtain⟨gm,f5⟩: ∃x,x=wc:=⟨_,rfl⟩;subst f5;clear a0 d3 d4;go_upto_region 10 with(fail);go_cut [10,71]from 42 to 71 (λv10 gj wc=>v10= UZ (m7 rc b)/\gj= .bool (lH rc b)/\Hi (BW gm wc))
 case first=>
  obtain⟨bG,bH⟩:=a' cf.o.cb;obtain⟨u0,u1⟩:=a' cf.o.cc;have a4:Hi (lH rc b=decide ((b.f'=1/\b.parent≠0)\/(1<b.f'/\(m7 rc b<0\/mW rc.L (m7 rc b)≠b.f'-1)))):=rfl;by_cases h1:b.f'=1
  ·have au:(b.f'==1)=true:=by rw [iO];exact h1
   have d7:decide (1<b.f')=false:=iH UN;by_cases h2:b.parent=0
   ·have ab:Hi (lH rc b=false):=by show _=_;rw [a4.o,pg];omega
    have cK:(b.parent != 0)=false:=(by rw [jt];exact h2);clear h1 h2 a4;go_region
    all_goals
     go_wp2;go_meet
     case rel=>exact⟨rfl,by rw [ab.o],(g' _ _).drew⟩
   ·have ab:Hi (lH rc b=true):=by show _=_;rw [a4.o,jk];exact .inl ⟨h1,h2⟩
    have cK:(b.parent != 0)=true:=(by rw [iB];exact h2);clear h1 h2 a4;go_region
    all_goals
     go_wp2;go_meet
     case rel=>exact⟨rfl,by rw [ab.o],(g' _ _).drew⟩
  ·have hh:=bB.o
   have au:(b.f'==1)=false:=(by rw [je];exact h1);have c3:1<b.f':=UN;have d7:decide (1<b.f')=true:=iP c3;have aA:m7 rc b=qe rc.L b.parent:=g7 c3;rcases be.o.find a2.o b.parent with⟨-,ay⟩|⟨e,k,V, -,ay, -⟩
   ·have ab:Hi (lH rc b=true):=by show _=_;rw [a4.o,jk];exact .inr ⟨c3,.inl (by rw [aA,ay];omega)⟩
    have bY:Hi (m7 rc b= -1):=aA.trans ay;rw [aA,ay];clear h1 hh aA ay a4;go_region
    all_goals
     go_wp2;go_meet
     case rel=>exact⟨by rw [bY.o],by rw [ab.o],(g' _ _).drew⟩
   ·have ab:Hi (lH rc b=(rc.L[k].b.f' != b.f'-1)):=by
     show _=_;rw [a4.o,aA,ay,tw _ _ V];have a6: ¬b.f'=1:=h1;have bC: ¬(k:Int)<0:=UN;simp [a6,bC,c3,bne,Bool.beq_eq_decide_eq]
    have bY:Hi (m7 rc b=(k:Int)):=aA.trans ay;rw [aA,ay];obtain⟨bQ,off,d5,d6,rfl,aj, -,c0,c1, -⟩:=o4 cf.o.tK k V;have dS:=fl.o;have gV:decide ((k:Int)<0)=false:=iH UN;have gW:wrap64 (b.f'-1)=b.f'-1:=(by have fV:=xP dS;unfold wrap64;omega);have gX:IntKind.i64.wrap (b.f'-1)=b.f'-1:=(by have fV:=xP dS;rw [rX];omega);have cH:(0:Int)<=(k:Int):=UN;have cI:(k:Int)<(rc.L.length:Int):=UN;generalize rc.L[k].b.f'=gu at*;clear h1 hh aA ay a4 dS aj c0;go_region
    all_goals
     go_wp2;go_meet
     case rel=>exact⟨by rw [bY.o],by rw [ab.o],(g' _ _).drew⟩
 obtain⟨rfl,rfl,aE⟩:=hcut;obtain⟨bg,f6⟩: ∃x,x=wc:=⟨_,rfl⟩;subst f6;obtain⟨a1,cW⟩:=ik (cf.o.c' aE.o) (pr be.o a2.o bB.o);have dz:=Hd (λaA=>F5 be.o a2.o (b:=b) bB.o aA);have ds:=Hd (λaA=>KS be.o a2.o (b:=b) bB.o aA);have dJ:=Hd (λaA=>IP be.o a2.o (b:=b) bB.o aA);clear aE cf
 cases bE:lH rc b with
 |true=>
  as_aux_lemma=>
   have bY:Hi (kd m.L b=18):=cW.o.1.trans (g7 bE);have ab:Hi (l' r m b=18):=(Ct bW.o cn.o (by rw [bY.o];omega)).trans bY.o;clear cW dz ds dJ bE
   go_wp2_with (first
    |(refine kf rfl _ _ rfl w.heap.size rfl _ _ _ _ a1.o.cc underlying39 rfl UQ ?_)
    |(refine kI rfl _ _ _ rfl (w.heap.size+2) _ rfl rfl _ _ a1.o.cr UQ rfl UQ ?_))
   (try simp only [Exit.inBlock,Exit.then])
   refine iQ (v:= .tuple #[.agg (mE false r la lc rc),I0,I0,UZ 18]) ?_ rfl (ov.bad ab.o UN a1.o.mx _);exact sy results9 rfl (kr _ _ _ _ _ _ a1.o.cr) underlying39 rfl UQ
 |false=>
  have cP:Hi (kd m.L b=0):=by have eO:=cW.o.1;rw [bE]at eO;exact eO
  obtain⟨a3,cS,dj,a4⟩:=oX (dz.o bE) (ds.o bE) (dJ.o bE) bE;clear cW dz ds dJ bE;obtain⟨p,aA⟩:=iF (m7 rc b);have dB:=Hd aA;rw [aA]at a3 cS dj⊢;have fu:Hi (zf p):=nw (by have:=a3.o.1;omega) (by have:=a3.o.2;have:=aw.o;omega);clear aA;have dK:=Hd (pR rc.L rc.L.length p);go_upto_region 12 with(fail);go_cut [84]from 73 to 84 (λgk wc=>gk= .bool (tW rc p)/\Hi (BW bg wc))
  case first=>
   have c7:tW rc p=decide (0<=rc.fin/\rc.fin∉js rc.L rc.L.length p):=rfl;by_cases ay:0<=rc.fin
   ·have ab:Hi (tW rc p= !decide (rc.fin∈js rc.L rc.L.length p)):=by show _=_;rw [c7];simp [ay]
    have au:decide (0<=rc.fin)=true:=iP ay;clear c7;refine qS (S:=lO bg w.heap.size (UV false r la lc rc)) UQ (lO.of a1.o.cc (Br bg).drew) (λhHeld=> ?_);go_simp;refine kL 0 ?_;go_simp;refine Gu 1 rfl (λa9 ao=>by have c1:=ao.Lh;go_simp;all_goals with_reducible rfl) ?_;go_simp;refine kL 2 ?_;go_simp;refine kL 3 ?_;go_simp;refine xp 4 rfl (pe (by rfl) _ _ rfl (w.heap.size) (0) rfl (UV false r la lc rc) _ (λa9 ao=>ao.range) underlying39 rfl UQ) ?_;go_simp;refine kL 5 ?_;go_simp;refine kL 7 ?_;go_simp;refine Gu 8 rfl (λa9 ao=>by have c1:=ao.Lh;go_simp;all_goals with_reducible rfl) ?_;go_simp;refine l8 6 rfl (λK G=> ?_);go_simp;refine(q6 _ false r rc la lc cV.o rc.L.length _ p a3.o.2 a3.o.1 a3.o.2 (by have:=aw.o;omega) (jf.c' a1.o.tK (Br bg).drew)).mono ?_;rintro e bv⟨v,rfl,aX,bo⟩;obtain⟨wa,gs,rfl, -, -⟩:=iW aX;have dN:=d' (Br bg).drew bo;obtain⟨aT,fo⟩:=ik dN aX.slice;have fW:lO bg w.heap.size (UV false r la lc rc) bv:=lO.of a1.o.cc dN;clear bo dN aX;clear hHeld;refine G.out _ _ (fW) (λhHeld=> ?_);clear G K;go_simp;refine l8 9 rfl (λK G=> ?_);go_simp;refine UR (CR _ _ wa (js rc.L rc.L.length p).length gs (js rc.L rc.L.length p) rfl fo.o (by have:=dK.o;have:=aw.o;omega) rc.fin) λaC aW=> ?_;have dO:=d' aT.o aW;have aZ:=Hd dO;have fX:lO bg w.heap.size (UV false r la lc rc) aC:=lO.of a1.o.cc dO;clear aW dO;clear hHeld;refine G.out _ _ (fX) (λhHeld=> ?_);clear G K;go_simp;refine kL 10 ?_;go_simp;refine kL 11 ?_;go_simp;refine mA UT ?_ _
    (try simp only [Exit.then])
    go_wp2;go_meet
    case rel=>exact⟨by rw [ab.o],aZ⟩
   ·have ab:Hi (tW rc p=false):=by show _=_;rw [c7,pg];exact λh=>ay h.1
    have au:decide (0<=rc.fin)=false:=iH ay;clear c7;refine qS (S:=lO bg w.heap.size (UV false r la lc rc)) UQ (lO.of a1.o.cc (Br bg).drew) (λhHeld=> ?_);go_simp;refine kL 0 ?_;go_simp;refine Gu 1 rfl (λa9 ao=>by have c1:=ao.Lh;go_simp;all_goals with_reducible rfl) ?_;go_simp;refine kL 2 ?_;go_simp;refine kL 3 ?_;go_simp;refine xp 4 rfl (Or.inr ⟨by rfl,rfl⟩) ?_;go_simp;refine xp 5 rfl (Or.inr ⟨by rfl,rfl⟩) ?_;go_simp;refine xp 6 rfl (Or.inr ⟨by rfl,rfl⟩) ?_;go_simp;refine xp 7 rfl (Or.inr ⟨by rfl,rfl⟩) ?_;go_simp;refine xp 8 rfl (Or.inr ⟨by rfl,rfl⟩) ?_;go_simp;refine xp 9 rfl (Or.inr ⟨by rfl,rfl⟩) ?_;go_simp;refine xp 10 rfl (Or.inr ⟨by rfl,rfl⟩) ?_;go_simp;refine kL 11 ?_;go_simp;refine mA UT ?_ _
    (try simp only [Exit.then])
    go_wp2;go_meet
    case rel=>exact⟨by rw [ab.o],(Br bg).drew⟩
  obtain⟨rfl,aE⟩:=hcut;obtain⟨bv,f7⟩: ∃x,x=wc:=⟨_,rfl⟩;subst f7;have bU:=Hd (a1.o.c' aE.o);clear aE a1
  cases c6:tW rc p with
  |true=>
   as_aux_lemma=>
    have ab:Hi (l' r m b=19):=xZ bW.o cn.o cP.o (by rw [<-cS.o];exact c6);clear c6
    go_wp2_with (first
     |(refine kf rfl _ _ rfl w.heap.size rfl _ _ _ _ bU.o.cc underlying39 rfl UQ ?_)
     |(refine kI rfl _ _ _ rfl (w.heap.size+2) _ rfl rfl _ _ bU.o.cr UQ rfl UQ ?_))
    (try simp only [Exit.inBlock,Exit.then])
    refine iQ (v:= .tuple #[.agg (mE false r la lc rc),I0,I0,UZ 19]) ?_ rfl (ov.bad ab.o UN bU.o.mx _);exact sy results9 rfl (kr _ _ _ _ _ _ bU.o.cr) underlying39 rfl UQ
  |false=>
   have eg:Hi (r8 m (iI m.L b)=false):=Hd (by rw [<-cS.o];exact c6);clear c6 cS;go_wp2;go_loopw [11] (λdZ wr=> ∃i:Nat,i<=b.hQ.length/\dZ= UZ i/\Hi (pJ r (b.hQ.drop i)=pJ r b.hQ)/\Hi (BW bv wr)) (λdZ _=>b.hQ.length-(intOf dZ).toNat)
   case atStart=>exact⟨0,iy _,rfl,rfl,g' _ _⟩
   case round=>
    obtain⟨i,hi,rfl,cY,di⟩:=hrel;have aD:=Hd (bU.o.c' di.o);have eH:=Hd aD.o.size;by_cases hlt:i<b.hQ.length
    ·obtain⟨bQ,off,ma,oa,pa,mc,oc,pc,rfl,f3,ht,c0,c1,c2,av,b0,b1,b4,b5,b6,eM⟩:=oq aD.o.blk.hQ i hlt
     obtain⟨eC,cz⟩:=ik (F2 c0 c1 c2 av b0 b1 b4 b5 b6 eM) (cY.o.symm.trans (Cp r b.hQ i hlt));have eX:=fw.o b.hQ[i] (z3 hlt);obtain⟨bG,bH⟩:=a' aD.o.cb;obtain⟨t,e2⟩:=iF (b.hQ[i]);rw [e2]at ht eC cz eX;have dH:=Hd ht;have cH:(0:Int)<=(i:Int):=UN;have cI:(i:Int)<(b.hQ.length:Int):=UN;clear ht e2 c0 c1 c2 av b0 b1 b4 b5 b6 eM cY f3;go_upto_region 17 with(fail);clear bG bH;refine qS (S:=OS w.heap.size UX (UW r) (w.heap.size+1) [b.parent,UZ b.f',b.hJ,b.work,b.e',.slice (some ⟨bQ,off,none⟩) b.hQ.length xc] bQ (off+i*10) [t.g5,.slice ma t.marks.length mc,.slice oa t.outs.length oc,t.iK,t.wd,t.jn,t.acc,t.e',UZ t.exp,.slice pa t.proof.length pc]) UQ (⟨aD.o.place,aD.o.rules,(a' aD.o.cb).1,eC.o⟩) (λhHeld=> ?_);go_simp;refine kL 0 ?_;go_simp;refine xp 1 rfl (pe (by rfl) _ _ rfl (w.heap.size) (0) rfl UX _ (λa9 ao=>ao.pl) underlying36 rfl UQ) ?_;go_simp;refine kL 2 ?_;go_simp;refine xp 3 rfl (pe (by rfl) _ _ rfl (w.heap.size) (6) rfl (UW r) _ (λa9 ao=>ao.ru) underlying26 rfl UQ) ?_;go_simp;refine kL 4 ?_;go_simp;refine Gu 5 rfl (λa9 ao=>by have c1:=ao.c2;go_simp;all_goals with_reducible rfl) ?_;go_simp;refine kL 6 ?_;go_simp;refine kL 7 ?_;go_simp;refine xp 8 rfl (pe (by rfl) _ _ rfl (bQ) (off+i*10) rfl [t.g5,.slice ma t.marks.length mc,.slice oa t.outs.length oc,t.iK,t.wd,t.jn,t.acc,t.e',UZ t.exp,.slice pa t.proof.length pc] _ (λa9 ao=>ao.r3) underlying87 rfl UQ) ?_;go_simp;refine l8 9 rfl (λK G=> ?_);go_simp;refine UR (Jc _ _ r fm.o t ma oa pa mc oc pc (dH.o.c' (Br wr).drew) eX) λwq hbq=> ?_;have dT:=d' (Br wr).drew hbq;obtain⟨cN,ff⟩:=ik (aD.o.c' dT) (d' di.o dT);have f2:=hHeld.next (by have:=eH.o;exact jg UN (Br wr).drew.size) (by have:=eH.o;exact jg UN (Br wr).drew.size) hbq;clear hbq dT;clear hHeld;refine G.out _ _ (f2) (λhHeld=> ?_);clear G K;go_simp;refine kL 10 ?_;go_simp;refine mA UT ?_ _
     (try simp only [Exit.then])
     by_cases bF:kF r.depth r.bl r.bu r.qu r.iz r.win r.fin r.work t=0
     ·have fP:=Hd (cz.o.trans (g7 bF)).symm
      rw [bF];clear bF cz;have ah:wrap64 ((i:Int)+1)=(i:Int)+1:=(by have:=cL.o;unfold wrap64;omega);go_wp2;go_roundw
      case rel=>exact⟨i+1,UN,by go_num,fP,ff⟩
      case measure=>first|(rw [ah];exact rW hlt (pb i))|exact rW hlt (pb i)
     ·have ab:Hi (l' r m b=kF r.depth r.bl r.bu r.qu r.iz r.win r.fin r.work t):=by
       have h1:=cz.o.trans (g3 bF);exact(Cs bW.o cn.o cP.o eg.o (by rw [h1];exact bF)).trans h1
      have au:(kF r.depth r.bl r.bu r.qu r.iz r.win r.fin r.work t != 0)=true:=(by rw [iB];exact bF);generalize kF r.depth r.bl r.bu r.qu r.iz r.win r.fin r.work t=E at*;have cv:Hi (E≠0):=bF;clear bF cz
      go_wp2_with (first
       |(refine kf rfl _ _ rfl w.heap.size rfl _ _ _ _ cN.o.cc underlying39 rfl UQ ?_)
       |(refine kI rfl _ _ _ rfl (w.heap.size+2) _ rfl rfl _ _ cN.o.cr UQ rfl UQ ?_))
      (try simp only [Exit.inBlock,Exit.then])
      refine iQ (v:= .tuple #[.agg (mE false r la lc rc),I0,I0,UZ E]) ?_ rfl (ov.bad ab.o cv.o cN.o.mx _);exact sy results9 rfl (kr _ _ _ _ _ _ cN.o.cr) underlying39 rfl UQ
    ·obtain rfl:i=b.hQ.length:=UN
     have fg:Hi (pJ r b.hQ=0):=(by have h1:=cY.o;rw [UD]at h1;exact h1.symm);have aU:Hi (wr.rangeAt w.heap.size 0 (UV false r la lc rc)):=oN (a' aD.o.cc).1;have aV:Hi (wr.rangeAt (w.heap.size+1) 0 [b.parent,UZ b.f',b.hJ,b.work,b.e',.slice xa b.hQ.length xc]):=oN (a' aD.o.cb).1;have dF:Hi (j6 r (kO rc.L (js rc.L rc.L.length p))):=(by show j6 _ _;rw [dj.o];exact(qi a2.o bB.o cP.o).2.2.2);obtain⟨aQ,cB⟩:=iF (kO rc.L (js rc.L rc.L.length p));have d9:=Hd cB;have fa:Hi (aQ=iG m.L (iI m.L b)):=cB.symm.trans dj.o;have dX:aQ.length=(js rc.L rc.L.length p).length:=(by rw [<-cB];exact TC _);have dY:j6 r aQ:=(by rw [<-cB];exact dF.o);have ay:=mC bP.o _ _ rfl dY;obtain⟨dy,dC,du,dA⟩:=oX ay.ok (Ii bP.o _ _ rfl dY) ay.up ay.past;have bX:Hi (400*aQ.length<=80000/\aQ.length<=100000):=⟨by rw [dX];have:=dK.o;have:=aw.o;omega,by rw [dX];have:=dK.o;have:=aw.o;omega⟩;obtain⟨bG,bH⟩:=a' aD.o.cb;clear hlt hi cY cB dX dY ay;go_upto_region 20 with(fail);clear bG bH;go_cut [13,14]from 107 to 114 (λgJ gg wc=>gg= UZ (jF r (jl r aQ) b)/\Hi (BW wr wc))
     case first=>
      refine qS (S:=nk wr w.heap.size 0 (UV false r la lc rc) (w.heap.size+1) 0 [b.parent,UZ b.f',b.hJ,b.work,b.e',.slice xa b.hQ.length xc]) UQ (nk.of aU.o aV.o (Br wr).drew) (λhHeld=> ?_);go_simp;refine xp 0 rfl (pe (by rfl) _ _ rfl (w.heap.size) (0) rfl (UV false r la lc rc) _ (λa9 ao=>ao.r1) underlying39 rfl UQ) ?_;go_simp;refine kL 1 ?_;go_simp;refine xp 3 rfl (pe (by rfl) _ _ rfl (w.heap.size+1) (0) rfl [b.parent,UZ b.f',b.hJ,b.work,b.e',.slice xa b.hQ.length xc] _ (λa9 ao=>ao.r2) underlying44 rfl UQ) ?_;go_simp;refine kt 2 8 rfl rfl (λK G=> ?_) (λK G=> ?_)
      ·go_simp
       refine(rO _ _ false r bP.o co.o rc la lc (jf.c' aD.o.tK (Br wr).drew) cV.o aw.o p a3.o.1 a3.o.2 dF.o).mono ?_;rw [d9.o];rintro e bv⟨v,rfl,cF,bo⟩;obtain⟨aT,cX⟩:=ik (d' (Br wr).drew bo) cF;clear bo cF;clear hHeld;refine G.out _ _ (nk.of aU.o aV.o aT.o) (λhHeld=> ?_);clear G K;go_simp;refine kt 4 8 rfl rfl (λK G=> ?_) (λK G=> ?_)
       ·go_simp
        refine(rC _ _ r bP.o co.o (jl r aQ) v cX.o _ dy.o (by have:=bX.o;omega) dC.o du.o (by have h1:=dA.o;have h2:=bX.o.2;omega) _ b xa xc (aD.o.blk.c' aT.o) cL.o).mono ?_;rintro e aC⟨s2,v2,rfl, -,aW⟩;have aZ:=Hd (d' aT.o aW);clear aW;clear hHeld;refine G.out _ _ (nk.of aU.o aV.o aZ.o) (λhHeld=> ?_);clear G K;go_simp;refine kL 5 ?_;go_simp;refine kL 6 ?_;go_simp;refine kL 7 ?_;go_simp;refine l8 8 rfl (λK G=> ?_);go_simp;refine G.out _ _ (nk.of aU.o aV.o (hd aZ.o _)) (λhHeld=> ?_);clear G K;go_simp;have cp:Hi (wr.heap.size<=aC.heap.size):=aZ.o.size;have bA:Hi (∀cs,BW wr ((aC.alloc (.cells mo 58)).setRow aC.heap.size cs)):=λcs=>below_setRow (hd aZ.o (.cells mo 58)) (cp.o) cs;refine l8 9 rfl (λK G=> ?_);refine k6 rfl _ _ _ rfl _ _ rfl rfl _ _ (gY aC (.cells mo 58)) UQ rfl UQ ?_;refine G.out _ _ (nk.of aU.o aV.o (bA.o _)) (λhHeld=> ?_);clear G K;go_simp;refine kL 10 ?_;go_simp
        as_aux_lemma=>
         refine mA UT ?_ _
         (try simp only [Exit.then])
         go_wp2;go_meet
         case rel=>exact⟨rfl,bA.o _⟩
       ·go_simp
        refine G.out _ _ (nk.of aU.o aV.o (hd aT.o _)) (λhHeld=> ?_);clear G K;go_simp;refine l8 4 rfl (λK G=> ?_);go_simp;refine(rC _ _ r bP.o co.o (jl r aQ) v (cX.o.c' (jc bv (.cells mo 58))) _ dy.o (by have:=bX.o;omega) dC.o du.o (by have h1:=dA.o;have h2:=bX.o.2;omega) _ b xa xc (aD.o.blk.c' (hd aT.o (.cells mo 58))) cL.o).mono ?_;rintro e aC⟨s2,v2,rfl, -,aW⟩;have aZ:=Hd (d' (hd aT.o (.cells mo 58)) aW);have dk:=Hd (b' aW (gY bv (.cells mo 58)));clear aW;clear hHeld;refine G.out _ _ (nk.of aU.o aV.o aZ.o) (λhHeld=> ?_);clear G K;go_simp;refine kL 5 ?_;go_simp;refine kL 6 ?_;go_simp;refine kL 7 ?_;go_simp;have cp:Hi (wr.heap.size<=bv.heap.size):=aT.o.size;have bA:Hi (∀cs,BW wr (aC.setRow bv.heap.size cs)):=λcs=>below_setRow aZ.o (cp.o) cs;refine l8 9 rfl (λK G=> ?_);refine k6 rfl _ _ _ rfl _ _ rfl rfl _ _ dk.o UQ rfl UQ ?_;refine G.out _ _ (nk.of aU.o aV.o (bA.o _)) (λhHeld=> ?_);clear G K;go_simp;refine kL 10 ?_;go_simp
        as_aux_lemma=>
         refine mA UT ?_ _
         (try simp only [Exit.then])
         go_wp2;go_meet
         case rel=>exact⟨rfl,bA.o _⟩
      ·go_simp
       refine G.out _ _ (nk.of aU.o aV.o (hd (Br wr).drew _)) (λhHeld=> ?_);clear G K;go_simp;refine l8 2 rfl (λK G=> ?_);go_simp;refine(rO _ _ false r bP.o co.o rc la lc (jf.c' aD.o.tK (hd (Br wr).drew (.cells mo 58))) cV.o aw.o p a3.o.1 a3.o.2 dF.o).mono ?_;rw [d9.o];rintro e bv⟨v,rfl,cF,bo⟩;have aT:=Hd (d' (hd (Br wr).drew (.cells mo 58)) bo);have cX:=Hd cF;have fe:=Hd (b' bo (gY wr.drew (.cells mo 58)));clear bo cF;clear hHeld;refine G.out _ _ (nk.of aU.o aV.o aT.o) (λhHeld=> ?_);clear G K;go_simp;refine l8 4 rfl (λK G=> ?_);go_simp;refine(rC _ _ r bP.o co.o (jl r aQ) v cX.o _ dy.o (by have:=bX.o;omega) dC.o du.o (by have h1:=dA.o;have h2:=bX.o.2;omega) _ b xa xc (aD.o.blk.c' aT.o) cL.o).mono ?_;rintro e aC⟨s2,v2,rfl, -,aW⟩;obtain⟨aZ,dk⟩:=ik (d' aT.o aW) (b' aW fe.o);clear aW;clear hHeld;refine G.out _ _ (nk.of aU.o aV.o aZ.o) (λhHeld=> ?_);clear G K;go_simp;refine kL 5 ?_;go_simp;refine kL 6 ?_;go_simp;refine kL 7 ?_;go_simp;have cp:Hi (wr.heap.size<=wr.drew.heap.size):=uo (Br wr).drew;have bA:Hi (∀cs,BW wr (aC.setRow wr.drew.heap.size cs)):=λcs=>below_setRow aZ.o (cp.o) cs;refine l8 9 rfl (λK G=> ?_);refine k6 rfl _ _ _ rfl _ _ rfl rfl _ _ dk.o UQ rfl UQ ?_;refine G.out _ _ (nk.of aU.o aV.o (bA.o _)) (λhHeld=> ?_);clear G K;go_simp;refine kL 10 ?_;go_simp
       as_aux_lemma=>
        refine mA UT ?_ _
        (try simp only [Exit.then])
        go_wp2;go_meet
        case rel=>exact⟨rfl,bA.o _⟩
     obtain⟨rfl,aE⟩:=hcut;obtain⟨aC,f8⟩: ∃x,x=wc:=⟨_,rfl⟩;subst f8;have bh:=Hd (aD.o.c' aE.o);clear aE aD aU aV di bU;have dG:Hi (l' r m b=jF r (jl r aQ) b):=(by have h1:=sC (r:=r) bW.o cn.o cP.o eg.o fg.o;rw [<-fa.o]at h1;exact h1);by_cases a8:jF r (jl r aQ) b=0
     case neg=>
      as_aux_lemma=>
       have au:(jF r (jl r aQ) b != 0)=true:=(by rw [iB];exact a8);generalize jF r (jl r aQ) b=E at*;have cv:Hi (E≠0):=a8;clear a8
       go_wp2_with (first
        |(refine kf rfl _ _ rfl w.heap.size rfl _ _ _ _ bh.o.cc underlying39 rfl UQ ?_)
        |(refine kI rfl _ _ _ rfl (w.heap.size+2) _ rfl rfl _ _ bh.o.cr UQ rfl UQ ?_))
       (try simp only [Exit.inBlock,Exit.then])
       refine iQ (v:= .tuple #[.agg (mE false r la lc rc),I0,I0,UZ E]) ?_ rfl (ov.bad dG.o cv.o bh.o.mx _);exact sy results9 rfl (kr _ _ _ _ _ _ bh.o.cr) underlying39 rfl UQ
     have dM:Hi (l' r m b=0):=dG.o.trans a8;rw [a8];clear a8 dG;have eF:Hi (su r m b):=sub_zero dM.o;obtain⟨bG,bH⟩:=a' bh.o.cb
     go_upto_region 24 with(first
      |(refine kf rfl _ _ rfl (w.heap.size+1) rfl _ _ _ _ bh.o.cb underlying44 rfl UQ ?_)
      |(refine kI rfl _ _ _ rfl aC.heap.size _ rfl rfl _ _ (gY aC (.cells #[U0,I0,U0,U0,U0,S0,U0,I0,U0] 94)) UQ rfl UQ ?_))
     have da:=bh.o.size;obtain⟨dg,dd⟩:=iF ((aC.alloc (.cells #[U0,I0,U0,U0,U0,S0,U0,I0,U0] 94)).setRow aC.heap.size #[b.parent,UZ b.f',b.hJ,b.work,b.e',.slice xa b.hQ.length xc,id,UZ p,b.work]);have cg:Hi (nM r w SP SB la lc rc b xa xc dg):=by
      show nM _ _ _ _ _ _ _ _ _ _ _;rw [<-dd];exact(bh.o.c' (hd (g' _ _) _)).row da _
     have cA:Hi (dg.heap[aC.heap.size]? =some (.cells #[b.parent,UZ b.f',b.hJ,b.work,b.e',.slice xa b.hQ.length xc,id,UZ p,b.work] 94 (0,0))):=by
      show _=_;rw [<-dd];exact kr _ _ _ _ _ _ (gY aC _)
     rw [dd];obtain⟨X,eQ⟩:=iF (aC.heap.size);rw [eQ]at cA da⊢;have aF:Hi (w.heap.size+3<=X):=da;clear dd eQ da bG bH bh;go_upto_if 126 with(fail);go_cut [127]from 126 to 136 (λgI wc=>Hi (nM r w SP SB la lc rc b xa xc wc)/\Hi (wc.heap[X]? =some (.cells #[b.parent,UZ b.f',b.hJ,b.work,b.e',.slice xa b.hQ.length xc,id,UZ p,(uh rc b)] 94 (0,0))))
     case first=>
      by_cases cE:0<=p
      ·obtain⟨k,V⟩: ∃k:Nat,p=k:=⟨p.toNat,UN⟩
       have bp:k<rc.L.length:=(by have:=a3.o.2;omega);have ab:Hi (uh rc b=jh (b.work+rc.L[k].jy)):=Hd (by unfold uh;rw [dB.o,g7 cE,V,tr _ _ bp]);have au:decide (0<=p)=true:=iP cE;subst V;obtain⟨bQ,off,d5,d6,rfl,aj, -,c0,c1,c2,av,b0,b1,b4,b5,b6⟩:=o4 cg.o.tK k bp;obtain⟨bx,e7⟩:=iF (rc.L[k].jy);rw [e7]at ab b6;have gG:IntKind.u64.wrap (b.work+bx)=jh (b.work+bx):=jP _;have cH:(0:Int)<=(k:Int):=UN;have cI:(k:Int)<(rc.L.length:Int):=UN;obtain⟨bG,bH⟩:=a' cA.o;obtain⟨u0,u1⟩:=a' cg.o.cc;clear e7 c0 c1 c2 av b0 b1 b4 b5 cE;go_wp2;go_region
       all_goals
        go_wp2;go_meet
        case rel=>exact⟨(cg.o.c' (Br dg).drew).cell aF.o _ _,by rw [ab.o];exact h6 (b' (Br dg).drew cA.o)⟩
      ·have ab:Hi (uh rc b=b.work):=by show _=_;unfold uh;rw [dB.o,g3 cE]
       have au:decide (0<=p)=false:=iH cE;go_wp2;go_meet
       case rel=>exact⟨cg,by rw [ab.o];exact cA.o⟩
     obtain⟨bV,dL⟩:=hcut;obtain⟨gn,f9⟩: ∃x,x=wc:=⟨_,rfl⟩;subst f9;clear cg cA;have fR:Hi (uh rc b=lC m b):=Ba be.o a2.o bB.o a4.o;have fc:Hi (rj m b= !ng rc (iv b) (lC m b)):=Bl be.o a2.o cn.o;have fQ:Hi (iZ (lC m b)):=FW m b fd.o;obtain⟨jy,db⟩:=iF (uh rc b);have eI:=Hd db;rw [db]at dL;have dI:Hi (lC m b=jy):=fR.o.symm.trans db;clear db;obtain⟨u0,u1⟩:=a' bV.o.cc
     go_wp2_with (first
      |(refine kf rfl _ _ rfl w.heap.size rfl _ _ _ _ bV.o.cc underlying39 rfl UQ ?_))
     refine(q6 _ false r rc la lc cV.o rc.L.length gn rc.lh ch.o.2.1 ch.o.1 ch.o.2.1 (by have:=aw.o;omega) bV.o.tK).mono ?_;rintro e U⟨v,rfl,aX,dP⟩;obtain⟨oa,oc,rfl, -, -⟩:=iW aX;obtain⟨ai,bf⟩:=ik (bV.o.c' dP) (b' dP dL.o);have e0:=bV.o.size;obtain⟨l1,c8⟩:=iF (js rc.L rc.L.length rc.lh);have dD:=Hd c8;rw [c8]at aX⊢;have bi:Hi (jS.rel (λk=>w.heap.size+3<=k) U [.slice oa l1.length oc] l1):=jS.mono aX.slice λk _ V=>iu e0 V;have bN:Hi (l1.length<=100):=Hd (by rw [<-c8];have:=pR rc.L rc.L.length rc.lh;have:=aw.o;omega);have ag:Hi (U.rangeAt X 0 [b.parent,UZ b.f',b.hJ,b.work,b.e',.slice xa b.hQ.length xc,id,UZ p,jy]):=oN (a' bf.o).1;have aG:Hi (w.heap.size<=U.heap.size):=ai.o.mx.size;have bj:Hi (p4.rel (λk=>(SP k\/SB k)/\k<w.heap.size) U [b.parent,UZ b.f',b.hJ,b.work,b.e',.slice xa b.hQ.length xc,id,UZ p,jy] (⟨b,id,p,jy⟩:qb)):=p4.mk (s:=(⟨b,id,p,jy⟩:qb)) ⟨ai.o.blk.mono λk _ V=>⟨.inr V.1,V.2⟩,by rw [<-bL.o];exact C' b,fu.o,by rw [<-dI.o];exact fQ.o⟩;obtain⟨Z,a8⟩:=iF (rc.L++ [(⟨b,id,p,jy⟩:qb)]);have bk:=Hd a8;have bn:Hi (Z=ka rc b):=Hd (by rw [<-a8];unfold ka;rw [bL.o,dB.o,eI.o]);have bm:Hi (Z.length<=101):=Hd (by rw [<-a8,U3];have:=aw.o;simp;omega);clear c8 aX dP e0 a8 u0 u1 bV dL;go_upto_region 27 with(fail);go_cut [141]from 141 to 148 (λgK wc=> ∃(R2:nL) (br:UP) (bt:Nat),Hi (R2=⟨ka rc b,rc.lh,rc.fin⟩)/\Hi (Gx r w SP SB br bt R2 wc)/\Hi (wc.heap[X]? =some (.cells (tm b xa xc id p jy) 94 (0,0)))/\Hi (jS.rel (λk=>w.heap.size+3<=k) wc [.slice oa l1.length oc] l1))
     case first=>
      refine qS (S:=n9 X [b.parent,UZ b.f',b.hJ,b.work,b.e',.slice xa b.hQ.length xc,id,UZ p,jy]) UQ (⟨ag.o⟩) (λhHeld=> ?_);go_simp;refine kL 1 ?_;go_simp;refine xp 4 rfl (pe (by rfl) _ _ rfl (X) (0) rfl [b.parent,UZ b.f',b.hJ,b.work,b.e',.slice xa b.hQ.length xc,id,UZ p,jy] _ (λa9 ao=>ao.r2) underlying94 rfl UQ) ?_;go_simp;refine Sj 0 2 5 rfl rfl rfl (λK G=> ?_) (λK G=> ?_) (λK G=> ?_)
      ·go_simp
       clear hHeld;have hbq:=hd (Br U).drew (.cells #[] 94);refine G.out _ _ (n9.of ag.o hbq) (λhHeld=> ?_);clear G K;go_simp;obtain⟨aY,ah,cl,bN,dD⟩: ∃x,(U.alloc (.cells #[] 94)).drew=x/\Hi (BW U x)/\Hi (x.heap[U.heap.size]? =some (.cells #[] 94 (0,0)))/\Hi (BW U x):=⟨_,rfl,hbq,gY U (.cells #[] 94),hbq⟩;rw [ah]at hHeld⊢;have eD:=Hd (ii bN.o);clear ah hbq;refine kt 2 5 rfl rfl (λK G=> ?_) (λK G=> ?_)
       ·have u0: ∀o,(aY).cell? ⟨w.heap.size,o,none⟩=((mE false r la lc rc):Array Value)[o]? :=(a' (b' cl.o ai.o.cc)).1
        go_simp;clear u0;refine G.out _ _ hHeld (λhHeld=> ?_);clear G K;go_simp;refine kt 3 5 rfl rfl (λK G=> ?_) (λK G=> ?_)
        ·refine kB (r:=p4) (S:=(λk=>(SP k\/SB k)/\k<w.heap.size)) (B:=U.heap.size) (w0:=U) (v:= .slice (some ⟨U.heap.size,0,none⟩) 0 0) (u:= .slice la rc.L.length lc) rfl _ _ rfl lj (λk V=>jg V.2 aG.o) rfl rfl (TB _) cl.o (g9 _) ((Own.empty p4 U.heap.size 94 bN.o (g9 _)).mono (F':=λk=>((SP k\/SB k)/\k<w.heap.size)\/U.heap.size<=k) λj _ aN=> .inr (by have h1:U.heap.size<=U.heap.size:=g9 _;rw [aN];exact h1)) (Src.of_slice (jf.mono (jf.c' ai.o.tK cl.o) λk _ V=>⟨.inl V.1,V.2⟩)) (by have:=aw.o;omega) UN ?_
         intro aM av az ap hb3 ax;obtain⟨aK,ak⟩:=ik ap hb3;clear ap hb3 ax hHeld;refine G.out _ _ (n9.of ag.o ak.o) (λhHeld=> ?_);clear G K;go_simp;refine l8 5 rfl (λK G=> ?_);go_simp;clear hHeld;have hbq:=hd ak.o (.cells (tm b xa xc id p jy) 94);refine G.out _ _ (n9.of ag.o hbq) (λhHeld=> ?_);clear G K;go_simp;obtain⟨gT,ah,ee,eu,fD⟩: ∃x,az.alloc (.cells (tm b xa xc id p jy) 94)=x/\Hi (BW U x)/\Hi (x.heap[az.heap.size]? =some (.cells (tm b xa xc id p jy) 94 (0,0)))/\Hi (BW az x):=⟨_,rfl,hbq,gY az (.cells (tm b xa xc id p jy) 94),jc az (.cells (tm b xa xc id p jy) 94)⟩;rw [ah]at hHeld⊢;have gD:=Hd (ii eu.o);clear ah hbq;have ft:=Hd (Own.c' aK.o fD.o);refine l8 6 rfl (λK G=> ?_);refine kB (r:=p4) (S:=(λk=>(SP k\/SB k)/\k<w.heap.size)) (B:=U.heap.size) (w0:=U) (v:= .slice aM rc.L.length av) (u:= .slice (some ⟨az.heap.size,0,none⟩) 1 1) rfl _ _ rfl lj (λk V=>jg V.2 aG.o) rfl rfl bk.o ee.o (g9 _) ft.o (Src.one (p4.c' bj.o ee.o) (kA eu.o)) (by have:=bm.o;omega) UN ?_;intro ad ae ar aq aj _;obtain⟨aL,Y⟩:=ik aq aj;clear aq aj hHeld;refine G.out _ _ (n9.of ag.o Y.o) (λhHeld=> ?_);clear G K;go_simp;refine kL 7 ?_;go_simp;refine l8 8 rfl (λK G=> ?_);obtain⟨u0,u1⟩:=a' (b' Y.o ai.o.cc);go_simp;clear u0 u1;refine G.out _ _ (n9.put (q:=w.heap.size) (n9.of ag.o Y.o) (by have:=aF.o;omega) 15 _) (λhHeld=> ?_);clear G K hHeld;go_simp
         as_aux_lemma=>
          refine mA UT ?_ _
          (try simp only [Exit.then])
          obtain⟨R2,af⟩: ∃q:nL,q=⟨Z,rc.lh,rc.fin⟩:=⟨_,rfl⟩;have bK:Hi (R2.L=Z):=(by rw [af];rfl);have aH:=Hd (nM.J0 ai.o Y.o aL.o.slice af);have aJ:=Hd (hB (p:=⟨w.heap.size,15,none⟩) (v:= .slice ad Z.length ae) (b' Y.o bf.o) (by have:=aF.o;show X≠w.heap.size;omega));have aI:=Hd (jS.keep (jS.c' bi.o Y.o) ((h9 ar w.heap.size 15 (.slice ad Z.length ae)).mono λk _ V=>by have h1:w.heap.size+3<=k:=V;show k≠_;omega));have HR2:=Hd af;clear af;generalize ar.setCell ⟨w.heap.size,15,none⟩ (.slice ad Z.length ae)=bw at*;go_wp2;go_meet
          case rel=>exact⟨R2,ad,ae,by rw [HR2.o];exact congrArg (λz=>(⟨z,rc.lh,rc.fin⟩:nL)) bn.o,aH,aJ,aI⟩
        ·go_simp
         clear hHeld;have hbq:=hd cl.o (.cells (tm b xa xc id p jy) 94);refine G.out _ _ (n9.of ag.o hbq) (λhHeld=> ?_);clear G K;go_simp;obtain⟨gU,ah,ef,ev,fE⟩: ∃x,aY.alloc (.cells (tm b xa xc id p jy) 94)=x/\Hi (BW U x)/\Hi (x.heap[aY.heap.size]? =some (.cells (tm b xa xc id p jy) 94 (0,0)))/\Hi (BW aY x):=⟨_,rfl,hbq,gY aY (.cells (tm b xa xc id p jy) 94),jc aY (.cells (tm b xa xc id p jy) 94)⟩;rw [ah]at hHeld⊢;have fN:=Hd (ii ev.o);clear ah hbq;have fj:=Hd (b' fE.o bN.o);refine l8 3 rfl (λK G=> ?_);refine kB (r:=p4) (S:=(λk=>(SP k\/SB k)/\k<w.heap.size)) (B:=U.heap.size) (w0:=U) (v:= .slice (some ⟨U.heap.size,0,none⟩) 0 0) (u:= .slice la rc.L.length lc) rfl _ _ rfl lj (λk V=>jg V.2 aG.o) rfl rfl (TB _) ef.o (g9 _) ((Own.empty p4 U.heap.size 94 fj.o (g9 _)).mono (F':=λk=>((SP k\/SB k)/\k<w.heap.size)\/U.heap.size<=k) λj _ aN=> .inr (by have h1:U.heap.size<=U.heap.size:=g9 _;rw [aN];exact h1)) (Src.of_slice (jf.mono (jf.c' ai.o.tK ef.o) λk _ V=>⟨.inl V.1,V.2⟩)) (by have:=aw.o;omega) UN ?_;intro aM av az ap hb3 ax;obtain⟨aK,ak⟩:=ik ap hb3;have a5:=Hd (hE ax ev.o (by simp only [Value.ownBlock];intro a7;simp at a7;have:=eD.o;have:=fN.o;omega));clear ap hb3 ax hHeld;refine G.out _ _ (n9.of ag.o ak.o) (λhHeld=> ?_);clear G K;go_simp;refine l8 6 rfl (λK G=> ?_);refine kB (r:=p4) (S:=(λk=>(SP k\/SB k)/\k<w.heap.size)) (B:=U.heap.size) (w0:=U) (v:= .slice aM rc.L.length av) (u:= .slice (some ⟨aY.heap.size,0,none⟩) 1 1) rfl _ _ rfl lj (λk V=>jg V.2 aG.o) rfl rfl bk.o ak.o (g9 _) aK.o (Src.one (p4.c' bj.o ak.o) (kA a5.o)) (by have:=bm.o;omega) UN ?_;intro ad ae ar aq aj _;obtain⟨aL,Y⟩:=ik aq aj;clear aq aj hHeld;refine G.out _ _ (n9.of ag.o Y.o) (λhHeld=> ?_);clear G K;go_simp;refine kL 7 ?_;go_simp;refine l8 8 rfl (λK G=> ?_);obtain⟨u0,u1⟩:=a' (b' Y.o ai.o.cc);go_simp;clear u0 u1;refine G.out _ _ (n9.put (q:=w.heap.size) (n9.of ag.o Y.o) (by have:=aF.o;omega) 15 _) (λhHeld=> ?_);clear G K hHeld;go_simp
         as_aux_lemma=>
          refine mA UT ?_ _
          (try simp only [Exit.then])
          obtain⟨R2,af⟩: ∃q:nL,q=⟨Z,rc.lh,rc.fin⟩:=⟨_,rfl⟩;have bK:Hi (R2.L=Z):=(by rw [af];rfl);have aH:=Hd (nM.J0 ai.o Y.o aL.o.slice af);have aJ:=Hd (hB (p:=⟨w.heap.size,15,none⟩) (v:= .slice ad Z.length ae) (b' Y.o bf.o) (by have:=aF.o;show X≠w.heap.size;omega));have aI:=Hd (jS.keep (jS.c' bi.o Y.o) ((h9 ar w.heap.size 15 (.slice ad Z.length ae)).mono λk _ V=>by have h1:w.heap.size+3<=k:=V;show k≠_;omega));have HR2:=Hd af;clear af;generalize ar.setCell ⟨w.heap.size,15,none⟩ (.slice ad Z.length ae)=bw at*;go_wp2;go_meet
          case rel=>exact⟨R2,ad,ae,by rw [HR2.o];exact congrArg (λz=>(⟨z,rc.lh,rc.fin⟩:nL)) bn.o,aH,aJ,aI⟩
       ·go_simp
        clear hHeld;have hbq:=hd cl.o (.cells (tm b xa xc id p jy) 94);refine G.out _ _ (n9.of ag.o hbq) (λhHeld=> ?_);clear G K;go_simp;obtain⟨gq,ah,dl,em,fx⟩: ∃x,aY.alloc (.cells (tm b xa xc id p jy) 94)=x/\Hi (BW U x)/\Hi (x.heap[aY.heap.size]? =some (.cells (tm b xa xc id p jy) 94 (0,0)))/\Hi (BW aY x):=⟨_,rfl,hbq,gY aY (.cells (tm b xa xc id p jy) 94),jc aY (.cells (tm b xa xc id p jy) 94)⟩;rw [ah]at hHeld⊢;have fG:=Hd (ii em.o);clear ah hbq;have fh:=Hd (b' fx.o bN.o);refine l8 2 rfl (λK G=> ?_);have u0: ∀o,(gq).cell? ⟨w.heap.size,o,none⟩=((mE false r la lc rc):Array Value)[o]? :=(a' (b' dl.o ai.o.cc)).1;go_simp;clear u0;refine G.out _ _ hHeld (λhHeld=> ?_);clear G K;go_simp;refine l8 3 rfl (λK G=> ?_);refine kB (r:=p4) (S:=(λk=>(SP k\/SB k)/\k<w.heap.size)) (B:=U.heap.size) (w0:=U) (v:= .slice (some ⟨U.heap.size,0,none⟩) 0 0) (u:= .slice la rc.L.length lc) rfl _ _ rfl lj (λk V=>jg V.2 aG.o) rfl rfl (TB _) dl.o (g9 _) ((Own.empty p4 U.heap.size 94 fh.o (g9 _)).mono (F':=λk=>((SP k\/SB k)/\k<w.heap.size)\/U.heap.size<=k) λj _ aN=> .inr (by have h1:U.heap.size<=U.heap.size:=g9 _;rw [aN];exact h1)) (Src.of_slice (jf.mono (jf.c' ai.o.tK dl.o) λk _ V=>⟨.inl V.1,V.2⟩)) (by have:=aw.o;omega) UN ?_;intro aM av az ap hb3 ax;obtain⟨aK,ak⟩:=ik ap hb3;have a5:=Hd (hE ax em.o (by simp only [Value.ownBlock];intro a7;simp at a7;have:=eD.o;have:=fG.o;omega));clear ap hb3 ax hHeld;refine G.out _ _ (n9.of ag.o ak.o) (λhHeld=> ?_);clear G K;go_simp;refine l8 6 rfl (λK G=> ?_);refine kB (r:=p4) (S:=(λk=>(SP k\/SB k)/\k<w.heap.size)) (B:=U.heap.size) (w0:=U) (v:= .slice aM rc.L.length av) (u:= .slice (some ⟨aY.heap.size,0,none⟩) 1 1) rfl _ _ rfl lj (λk V=>jg V.2 aG.o) rfl rfl bk.o ak.o (g9 _) aK.o (Src.one (p4.c' bj.o ak.o) (kA a5.o)) (by have:=bm.o;omega) UN ?_;intro ad ae ar aq aj _;obtain⟨aL,Y⟩:=ik aq aj;clear aq aj hHeld;refine G.out _ _ (n9.of ag.o Y.o) (λhHeld=> ?_);clear G K;go_simp;refine kL 7 ?_;go_simp;refine l8 8 rfl (λK G=> ?_);obtain⟨u0,u1⟩:=a' (b' Y.o ai.o.cc);go_simp;clear u0 u1;refine G.out _ _ (n9.put (q:=w.heap.size) (n9.of ag.o Y.o) (by have:=aF.o;omega) 15 _) (λhHeld=> ?_);clear G K hHeld;go_simp
        as_aux_lemma=>
         refine mA UT ?_ _
         (try simp only [Exit.then])
         obtain⟨R2,af⟩: ∃q:nL,q=⟨Z,rc.lh,rc.fin⟩:=⟨_,rfl⟩;have bK:Hi (R2.L=Z):=(by rw [af];rfl);have aH:=Hd (nM.J0 ai.o Y.o aL.o.slice af);have aJ:=Hd (hB (p:=⟨w.heap.size,15,none⟩) (v:= .slice ad Z.length ae) (b' Y.o bf.o) (by have:=aF.o;show X≠w.heap.size;omega));have aI:=Hd (jS.keep (jS.c' bi.o Y.o) ((h9 ar w.heap.size 15 (.slice ad Z.length ae)).mono λk _ V=>by have h1:w.heap.size+3<=k:=V;show k≠_;omega));have HR2:=Hd af;clear af;generalize ar.setCell ⟨w.heap.size,15,none⟩ (.slice ad Z.length ae)=bw at*;go_wp2;go_meet
         case rel=>exact⟨R2,ad,ae,by rw [HR2.o];exact congrArg (λz=>(⟨z,rc.lh,rc.fin⟩:nL)) bn.o,aH,aJ,aI⟩
      ·have u0: ∀o,(U).cell? ⟨w.heap.size,o,none⟩=((mE false r la lc rc):Array Value)[o]? :=(a' (b' (Br U).drew ai.o.cc)).1
       go_simp;clear u0;refine G.out _ _ hHeld (λhHeld=> ?_);clear G K;go_simp;refine kt 0 5 rfl rfl (λK G=> ?_) (λK G=> ?_)
       ·go_simp
        clear hHeld;have hbq:=hd (Br U).drew (.cells #[] 94);refine G.out _ _ (n9.of ag.o hbq) (λhHeld=> ?_);clear G K;go_simp;obtain⟨cd,ah,dm,dv,gy⟩: ∃x,(U.alloc (.cells #[] 94)).drew=x/\Hi (BW U x)/\Hi (x.heap[U.heap.size]? =some (.cells #[] 94 (0,0)))/\Hi (BW U x):=⟨_,rfl,hbq,gY U (.cells #[] 94),hbq⟩;rw [ah]at hHeld⊢;have fH:=Hd (ii dv.o);clear ah hbq;refine kt 3 5 rfl rfl (λK G=> ?_) (λK G=> ?_)
        ·refine kB (r:=p4) (S:=(λk=>(SP k\/SB k)/\k<w.heap.size)) (B:=U.heap.size) (w0:=U) (v:= .slice (some ⟨U.heap.size,0,none⟩) 0 0) (u:= .slice la rc.L.length lc) rfl _ _ rfl lj (λk V=>jg V.2 aG.o) rfl rfl (TB _) dm.o (g9 _) ((Own.empty p4 U.heap.size 94 dv.o (g9 _)).mono (F':=λk=>((SP k\/SB k)/\k<w.heap.size)\/U.heap.size<=k) λj _ aN=> .inr (by have h1:U.heap.size<=U.heap.size:=g9 _;rw [aN];exact h1)) (Src.of_slice (jf.mono (jf.c' ai.o.tK dm.o) λk _ V=>⟨.inl V.1,V.2⟩)) (by have:=aw.o;omega) UN ?_
         intro aM av az ap hb3 ax;obtain⟨aK,ak⟩:=ik ap hb3;clear ap hb3 ax hHeld;refine G.out _ _ (n9.of ag.o ak.o) (λhHeld=> ?_);clear G K;go_simp;refine l8 5 rfl (λK G=> ?_);go_simp;clear hHeld;have hbq:=hd ak.o (.cells (tm b xa xc id p jy) 94);refine G.out _ _ (n9.of ag.o hbq) (λhHeld=> ?_);clear G K;go_simp;obtain⟨gP,ah,ea,en,fy⟩: ∃x,az.alloc (.cells (tm b xa xc id p jy) 94)=x/\Hi (BW U x)/\Hi (x.heap[az.heap.size]? =some (.cells (tm b xa xc id p jy) 94 (0,0)))/\Hi (BW az x):=⟨_,rfl,hbq,gY az (.cells (tm b xa xc id p jy) 94),jc az (.cells (tm b xa xc id p jy) 94)⟩;rw [ah]at hHeld⊢;have gC:=Hd (ii en.o);clear ah hbq;have fq:=Hd (Own.c' aK.o fy.o);refine l8 6 rfl (λK G=> ?_);refine kB (r:=p4) (S:=(λk=>(SP k\/SB k)/\k<w.heap.size)) (B:=U.heap.size) (w0:=U) (v:= .slice aM rc.L.length av) (u:= .slice (some ⟨az.heap.size,0,none⟩) 1 1) rfl _ _ rfl lj (λk V=>jg V.2 aG.o) rfl rfl bk.o ea.o (g9 _) fq.o (Src.one (p4.c' bj.o ea.o) (kA en.o)) (by have:=bm.o;omega) UN ?_;intro ad ae ar aq aj _;obtain⟨aL,Y⟩:=ik aq aj;clear aq aj hHeld;refine G.out _ _ (n9.of ag.o Y.o) (λhHeld=> ?_);clear G K;go_simp;refine kL 7 ?_;go_simp;refine l8 8 rfl (λK G=> ?_);obtain⟨u0,u1⟩:=a' (b' Y.o ai.o.cc);go_simp;clear u0 u1;refine G.out _ _ (n9.put (q:=w.heap.size) (n9.of ag.o Y.o) (by have:=aF.o;omega) 15 _) (λhHeld=> ?_);clear G K hHeld;go_simp
         as_aux_lemma=>
          refine mA UT ?_ _
          (try simp only [Exit.then])
          obtain⟨R2,af⟩: ∃q:nL,q=⟨Z,rc.lh,rc.fin⟩:=⟨_,rfl⟩;have bK:Hi (R2.L=Z):=(by rw [af];rfl);have aH:=Hd (nM.J0 ai.o Y.o aL.o.slice af);have aJ:=Hd (hB (p:=⟨w.heap.size,15,none⟩) (v:= .slice ad Z.length ae) (b' Y.o bf.o) (by have:=aF.o;show X≠w.heap.size;omega));have aI:=Hd (jS.keep (jS.c' bi.o Y.o) ((h9 ar w.heap.size 15 (.slice ad Z.length ae)).mono λk _ V=>by have h1:w.heap.size+3<=k:=V;show k≠_;omega));have HR2:=Hd af;clear af;generalize ar.setCell ⟨w.heap.size,15,none⟩ (.slice ad Z.length ae)=bw at*;go_wp2;go_meet
          case rel=>exact⟨R2,ad,ae,by rw [HR2.o];exact congrArg (λz=>(⟨z,rc.lh,rc.fin⟩:nL)) bn.o,aH,aJ,aI⟩
        ·go_simp
         clear hHeld;have hbq:=hd dm.o (.cells (tm b xa xc id p jy) 94);refine G.out _ _ (n9.of ag.o hbq) (λhHeld=> ?_);clear G K;go_simp;obtain⟨gQ,ah,eb,eo,fz⟩: ∃x,cd.alloc (.cells (tm b xa xc id p jy) 94)=x/\Hi (BW U x)/\Hi (x.heap[cd.heap.size]? =some (.cells (tm b xa xc id p jy) 94 (0,0)))/\Hi (BW cd x):=⟨_,rfl,hbq,gY cd (.cells (tm b xa xc id p jy) 94),jc cd (.cells (tm b xa xc id p jy) 94)⟩;rw [ah]at hHeld⊢;have fI:=Hd (ii eo.o);clear ah hbq;have fi:=Hd (b' fz.o dv.o);refine l8 3 rfl (λK G=> ?_);refine kB (r:=p4) (S:=(λk=>(SP k\/SB k)/\k<w.heap.size)) (B:=U.heap.size) (w0:=U) (v:= .slice (some ⟨U.heap.size,0,none⟩) 0 0) (u:= .slice la rc.L.length lc) rfl _ _ rfl lj (λk V=>jg V.2 aG.o) rfl rfl (TB _) eb.o (g9 _) ((Own.empty p4 U.heap.size 94 fi.o (g9 _)).mono (F':=λk=>((SP k\/SB k)/\k<w.heap.size)\/U.heap.size<=k) λj _ aN=> .inr (by have h1:U.heap.size<=U.heap.size:=g9 _;rw [aN];exact h1)) (Src.of_slice (jf.mono (jf.c' ai.o.tK eb.o) λk _ V=>⟨.inl V.1,V.2⟩)) (by have:=aw.o;omega) UN ?_;intro aM av az ap hb3 ax;obtain⟨aK,ak⟩:=ik ap hb3;have a5:=Hd (hE ax eo.o (by simp only [Value.ownBlock];intro a7;simp at a7;have:=fH.o;have:=fI.o;omega));clear ap hb3 ax hHeld;refine G.out _ _ (n9.of ag.o ak.o) (λhHeld=> ?_);clear G K;go_simp;refine l8 6 rfl (λK G=> ?_);refine kB (r:=p4) (S:=(λk=>(SP k\/SB k)/\k<w.heap.size)) (B:=U.heap.size) (w0:=U) (v:= .slice aM rc.L.length av) (u:= .slice (some ⟨cd.heap.size,0,none⟩) 1 1) rfl _ _ rfl lj (λk V=>jg V.2 aG.o) rfl rfl bk.o ak.o (g9 _) aK.o (Src.one (p4.c' bj.o ak.o) (kA a5.o)) (by have:=bm.o;omega) UN ?_;intro ad ae ar aq aj _;obtain⟨aL,Y⟩:=ik aq aj;clear aq aj hHeld;refine G.out _ _ (n9.of ag.o Y.o) (λhHeld=> ?_);clear G K;go_simp;refine kL 7 ?_;go_simp;refine l8 8 rfl (λK G=> ?_);obtain⟨u0,u1⟩:=a' (b' Y.o ai.o.cc);go_simp;clear u0 u1;refine G.out _ _ (n9.put (q:=w.heap.size) (n9.of ag.o Y.o) (by have:=aF.o;omega) 15 _) (λhHeld=> ?_);clear G K hHeld;go_simp
         as_aux_lemma=>
          refine mA UT ?_ _
          (try simp only [Exit.then])
          obtain⟨R2,af⟩: ∃q:nL,q=⟨Z,rc.lh,rc.fin⟩:=⟨_,rfl⟩;have bK:Hi (R2.L=Z):=(by rw [af];rfl);have aH:=Hd (nM.J0 ai.o Y.o aL.o.slice af);have aJ:=Hd (hB (p:=⟨w.heap.size,15,none⟩) (v:= .slice ad Z.length ae) (b' Y.o bf.o) (by have:=aF.o;show X≠w.heap.size;omega));have aI:=Hd (jS.keep (jS.c' bi.o Y.o) ((h9 ar w.heap.size 15 (.slice ad Z.length ae)).mono λk _ V=>by have h1:w.heap.size+3<=k:=V;show k≠_;omega));have HR2:=Hd af;clear af;generalize ar.setCell ⟨w.heap.size,15,none⟩ (.slice ad Z.length ae)=bw at*;go_wp2;go_meet
          case rel=>exact⟨R2,ad,ae,by rw [HR2.o];exact congrArg (λz=>(⟨z,rc.lh,rc.fin⟩:nL)) bn.o,aH,aJ,aI⟩
       ·go_simp
        clear hHeld;have hbq:=hd (Br U).drew (.cells (tm b xa xc id p jy) 94);refine G.out _ _ (n9.of ag.o hbq) (λhHeld=> ?_);clear G K;go_simp;obtain⟨bT,ah,dn,ep,gz⟩: ∃x,(U.alloc (.cells (tm b xa xc id p jy) 94)).drew=x/\Hi (BW U x)/\Hi (x.heap[U.heap.size]? =some (.cells (tm b xa xc id p jy) 94 (0,0)))/\Hi (BW U x):=⟨_,rfl,hbq,gY U (.cells (tm b xa xc id p jy) 94),hbq⟩;rw [ah]at hHeld⊢;have fJ:=Hd (ii ep.o);clear ah hbq;refine l8 0 rfl (λK G=> ?_);go_simp;clear hHeld;have hbq:=hd dn.o (.cells #[] 94);refine G.out _ _ (n9.of ag.o hbq) (λhHeld=> ?_);clear G K;go_simp;obtain⟨gR,ah,ec,er,fA⟩: ∃x,bT.alloc (.cells #[] 94)=x/\Hi (BW U x)/\Hi (x.heap[bT.heap.size]? =some (.cells #[] 94 (0,0)))/\Hi (BW bT x):=⟨_,rfl,hbq,gY bT (.cells #[] 94),jc bT (.cells #[] 94)⟩;rw [ah]at hHeld⊢;have fK:=Hd (ii er.o);clear ah hbq;have fS:=Hd (b' fA.o ep.o);refine l8 3 rfl (λK G=> ?_);refine kB (r:=p4) (S:=(λk=>(SP k\/SB k)/\k<w.heap.size)) (B:=U.heap.size) (w0:=U) (v:= .slice (some ⟨bT.heap.size,0,none⟩) 0 0) (u:= .slice la rc.L.length lc) rfl _ _ rfl lj (λk V=>jg V.2 aG.o) rfl rfl (TB _) ec.o (g9 _) ((Own.empty p4 U.heap.size 94 er.o (uo dn.o)).mono (F':=λk=>((SP k\/SB k)/\k<w.heap.size)\/U.heap.size<=k) λj _ aN=> .inr (by have h1:U.heap.size<=bT.heap.size:=uo dn.o;rw [aN];exact h1)) (Src.of_slice (jf.mono (jf.c' ai.o.tK ec.o) λk _ V=>⟨.inl V.1,V.2⟩)) (by have:=aw.o;omega) UN ?_;intro aM av az ap hb3 ax;obtain⟨aK,ak⟩:=ik ap hb3;have a5:=Hd (hE ax fS.o (by simp only [Value.ownBlock];intro a7;simp at a7;have:=fJ.o;have:=fK.o;omega));clear ap hb3 ax hHeld;refine G.out _ _ (n9.of ag.o ak.o) (λhHeld=> ?_);clear G K;go_simp;refine l8 6 rfl (λK G=> ?_);refine kB (r:=p4) (S:=(λk=>(SP k\/SB k)/\k<w.heap.size)) (B:=U.heap.size) (w0:=U) (v:= .slice aM rc.L.length av) (u:= .slice (some ⟨U.heap.size,0,none⟩) 1 1) rfl _ _ rfl lj (λk V=>jg V.2 aG.o) rfl rfl bk.o ak.o (g9 _) aK.o (Src.one (p4.c' bj.o ak.o) (kA a5.o)) (by have:=bm.o;omega) UN ?_;intro ad ae ar aq aj _;obtain⟨aL,Y⟩:=ik aq aj;clear aq aj hHeld;refine G.out _ _ (n9.of ag.o Y.o) (λhHeld=> ?_);clear G K;go_simp;refine kL 7 ?_;go_simp;refine l8 8 rfl (λK G=> ?_);obtain⟨u0,u1⟩:=a' (b' Y.o ai.o.cc);go_simp;clear u0 u1;refine G.out _ _ (n9.put (q:=w.heap.size) (n9.of ag.o Y.o) (by have:=aF.o;omega) 15 _) (λhHeld=> ?_);clear G K hHeld;go_simp
        as_aux_lemma=>
         refine mA UT ?_ _
         (try simp only [Exit.then])
         obtain⟨R2,af⟩: ∃q:nL,q=⟨Z,rc.lh,rc.fin⟩:=⟨_,rfl⟩;have bK:Hi (R2.L=Z):=(by rw [af];rfl);have aH:=Hd (nM.J0 ai.o Y.o aL.o.slice af);have aJ:=Hd (hB (p:=⟨w.heap.size,15,none⟩) (v:= .slice ad Z.length ae) (b' Y.o bf.o) (by have:=aF.o;show X≠w.heap.size;omega));have aI:=Hd (jS.keep (jS.c' bi.o Y.o) ((h9 ar w.heap.size 15 (.slice ad Z.length ae)).mono λk _ V=>by have h1:w.heap.size+3<=k:=V;show k≠_;omega));have HR2:=Hd af;clear af;generalize ar.setCell ⟨w.heap.size,15,none⟩ (.slice ad Z.length ae)=bw at*;go_wp2;go_meet
         case rel=>exact⟨R2,ad,ae,by rw [HR2.o];exact congrArg (λz=>(⟨z,rc.lh,rc.fin⟩:nL)) bn.o,aH,aJ,aI⟩
      ·go_simp
       clear hHeld;have hbq:=hd (Br U).drew (.cells (tm b xa xc id p jy) 94);refine G.out _ _ (n9.of ag.o hbq) (λhHeld=> ?_);clear G K;go_simp;obtain⟨aO,ah,bJ,dw,gA⟩: ∃x,(U.alloc (.cells (tm b xa xc id p jy) 94)).drew=x/\Hi (BW U x)/\Hi (x.heap[U.heap.size]? =some (.cells (tm b xa xc id p jy) 94 (0,0)))/\Hi (BW U x):=⟨_,rfl,hbq,gY U (.cells (tm b xa xc id p jy) 94),hbq⟩;rw [ah]at hHeld⊢;have eE:=Hd (ii dw.o);clear ah hbq;refine kt 0 2 rfl rfl (λK G=> ?_) (λK G=> ?_)
       ·go_simp
        clear hHeld;have hbq:=hd bJ.o (.cells #[] 94);refine G.out _ _ (n9.of ag.o hbq) (λhHeld=> ?_);clear G K;go_simp;obtain⟨gr,ah,dp,es,fB⟩: ∃x,aO.alloc (.cells #[] 94)=x/\Hi (BW U x)/\Hi (x.heap[aO.heap.size]? =some (.cells #[] 94 (0,0)))/\Hi (BW aO x):=⟨_,rfl,hbq,gY aO (.cells #[] 94),jc aO (.cells #[] 94)⟩;rw [ah]at hHeld⊢;have fL:=Hd (ii es.o);clear ah hbq;have fT:=Hd (b' fB.o dw.o);refine l8 2 rfl (λK G=> ?_);have u0: ∀o,(gr).cell? ⟨w.heap.size,o,none⟩=((mE false r la lc rc):Array Value)[o]? :=(a' (b' dp.o ai.o.cc)).1;go_simp;clear u0;refine G.out _ _ hHeld (λhHeld=> ?_);clear G K;go_simp;refine l8 3 rfl (λK G=> ?_);refine kB (r:=p4) (S:=(λk=>(SP k\/SB k)/\k<w.heap.size)) (B:=U.heap.size) (w0:=U) (v:= .slice (some ⟨aO.heap.size,0,none⟩) 0 0) (u:= .slice la rc.L.length lc) rfl _ _ rfl lj (λk V=>jg V.2 aG.o) rfl rfl (TB _) dp.o (g9 _) ((Own.empty p4 U.heap.size 94 es.o (uo bJ.o)).mono (F':=λk=>((SP k\/SB k)/\k<w.heap.size)\/U.heap.size<=k) λj _ aN=> .inr (by have h1:U.heap.size<=aO.heap.size:=uo bJ.o;rw [aN];exact h1)) (Src.of_slice (jf.mono (jf.c' ai.o.tK dp.o) λk _ V=>⟨.inl V.1,V.2⟩)) (by have:=aw.o;omega) UN ?_;intro aM av az ap hb3 ax;obtain⟨aK,ak⟩:=ik ap hb3;have a5:=Hd (hE ax fT.o (by simp only [Value.ownBlock];intro a7;simp at a7;have:=eE.o;have:=fL.o;omega));clear ap hb3 ax hHeld;refine G.out _ _ (n9.of ag.o ak.o) (λhHeld=> ?_);clear G K;go_simp;refine l8 6 rfl (λK G=> ?_);refine kB (r:=p4) (S:=(λk=>(SP k\/SB k)/\k<w.heap.size)) (B:=U.heap.size) (w0:=U) (v:= .slice aM rc.L.length av) (u:= .slice (some ⟨U.heap.size,0,none⟩) 1 1) rfl _ _ rfl lj (λk V=>jg V.2 aG.o) rfl rfl bk.o ak.o (g9 _) aK.o (Src.one (p4.c' bj.o ak.o) (kA a5.o)) (by have:=bm.o;omega) UN ?_;intro ad ae ar aq aj _;obtain⟨aL,Y⟩:=ik aq aj;clear aq aj hHeld;refine G.out _ _ (n9.of ag.o Y.o) (λhHeld=> ?_);clear G K;go_simp;refine kL 7 ?_;go_simp;refine l8 8 rfl (λK G=> ?_);obtain⟨u0,u1⟩:=a' (b' Y.o ai.o.cc);go_simp;clear u0 u1;refine G.out _ _ (n9.put (q:=w.heap.size) (n9.of ag.o Y.o) (by have:=aF.o;omega) 15 _) (λhHeld=> ?_);clear G K hHeld;go_simp
        as_aux_lemma=>
         refine mA UT ?_ _
         (try simp only [Exit.then])
         obtain⟨R2,af⟩: ∃q:nL,q=⟨Z,rc.lh,rc.fin⟩:=⟨_,rfl⟩;have bK:Hi (R2.L=Z):=(by rw [af];rfl);have aH:=Hd (nM.J0 ai.o Y.o aL.o.slice af);have aJ:=Hd (hB (p:=⟨w.heap.size,15,none⟩) (v:= .slice ad Z.length ae) (b' Y.o bf.o) (by have:=aF.o;show X≠w.heap.size;omega));have aI:=Hd (jS.keep (jS.c' bi.o Y.o) ((h9 ar w.heap.size 15 (.slice ad Z.length ae)).mono λk _ V=>by have h1:w.heap.size+3<=k:=V;show k≠_;omega));have HR2:=Hd af;clear af;generalize ar.setCell ⟨w.heap.size,15,none⟩ (.slice ad Z.length ae)=bw at*;go_wp2;go_meet
         case rel=>exact⟨R2,ad,ae,by rw [HR2.o];exact congrArg (λz=>(⟨z,rc.lh,rc.fin⟩:nL)) bn.o,aH,aJ,aI⟩
       ·have u0: ∀o,(aO).cell? ⟨w.heap.size,o,none⟩=((mE false r la lc rc):Array Value)[o]? :=(a' (b' bJ.o ai.o.cc)).1
        go_simp;clear u0;refine G.out _ _ hHeld (λhHeld=> ?_);clear G K;go_simp;refine l8 0 rfl (λK G=> ?_);go_simp;clear hHeld;have hbq:=hd bJ.o (.cells #[] 94);refine G.out _ _ (n9.of ag.o hbq) (λhHeld=> ?_);clear G K;go_simp;obtain⟨gS,ah,ed,et,fC⟩: ∃x,aO.alloc (.cells #[] 94)=x/\Hi (BW U x)/\Hi (x.heap[aO.heap.size]? =some (.cells #[] 94 (0,0)))/\Hi (BW aO x):=⟨_,rfl,hbq,gY aO (.cells #[] 94),jc aO (.cells #[] 94)⟩;rw [ah]at hHeld⊢;have fM:=Hd (ii et.o);clear ah hbq;have fU:=Hd (b' fC.o dw.o);refine l8 3 rfl (λK G=> ?_);refine kB (r:=p4) (S:=(λk=>(SP k\/SB k)/\k<w.heap.size)) (B:=U.heap.size) (w0:=U) (v:= .slice (some ⟨aO.heap.size,0,none⟩) 0 0) (u:= .slice la rc.L.length lc) rfl _ _ rfl lj (λk V=>jg V.2 aG.o) rfl rfl (TB _) ed.o (g9 _) ((Own.empty p4 U.heap.size 94 et.o (uo bJ.o)).mono (F':=λk=>((SP k\/SB k)/\k<w.heap.size)\/U.heap.size<=k) λj _ aN=> .inr (by have h1:U.heap.size<=aO.heap.size:=uo bJ.o;rw [aN];exact h1)) (Src.of_slice (jf.mono (jf.c' ai.o.tK ed.o) λk _ V=>⟨.inl V.1,V.2⟩)) (by have:=aw.o;omega) UN ?_;intro aM av az ap hb3 ax;obtain⟨aK,ak⟩:=ik ap hb3;have a5:=Hd (hE ax fU.o (by simp only [Value.ownBlock];intro a7;simp at a7;have:=eE.o;have:=fM.o;omega));clear ap hb3 ax hHeld;refine G.out _ _ (n9.of ag.o ak.o) (λhHeld=> ?_);clear G K;go_simp;refine l8 6 rfl (λK G=> ?_);refine kB (r:=p4) (S:=(λk=>(SP k\/SB k)/\k<w.heap.size)) (B:=U.heap.size) (w0:=U) (v:= .slice aM rc.L.length av) (u:= .slice (some ⟨U.heap.size,0,none⟩) 1 1) rfl _ _ rfl lj (λk V=>jg V.2 aG.o) rfl rfl bk.o ak.o (g9 _) aK.o (Src.one (p4.c' bj.o ak.o) (kA a5.o)) (by have:=bm.o;omega) UN ?_;intro ad ae ar aq aj _;obtain⟨aL,Y⟩:=ik aq aj;clear aq aj hHeld;refine G.out _ _ (n9.of ag.o Y.o) (λhHeld=> ?_);clear G K;go_simp;refine kL 7 ?_;go_simp;refine l8 8 rfl (λK G=> ?_);obtain⟨u0,u1⟩:=a' (b' Y.o ai.o.cc);go_simp;clear u0 u1;refine G.out _ _ (n9.put (q:=w.heap.size) (n9.of ag.o Y.o) (by have:=aF.o;omega) 15 _) (λhHeld=> ?_);clear G K hHeld;go_simp
        as_aux_lemma=>
         refine mA UT ?_ _
         (try simp only [Exit.then])
         obtain⟨R2,af⟩: ∃q:nL,q=⟨Z,rc.lh,rc.fin⟩:=⟨_,rfl⟩;have bK:Hi (R2.L=Z):=(by rw [af];rfl);have aH:=Hd (nM.J0 ai.o Y.o aL.o.slice af);have aJ:=Hd (hB (p:=⟨w.heap.size,15,none⟩) (v:= .slice ad Z.length ae) (b' Y.o bf.o) (by have:=aF.o;show X≠w.heap.size;omega));have aI:=Hd (jS.keep (jS.c' bi.o Y.o) ((h9 ar w.heap.size 15 (.slice ad Z.length ae)).mono λk _ V=>by have h1:w.heap.size+3<=k:=V;show k≠_;omega));have HR2:=Hd af;clear af;generalize ar.setCell ⟨w.heap.size,15,none⟩ (.slice ad Z.length ae)=bw at*;go_wp2;go_meet
         case rel=>exact⟨R2,ad,ae,by rw [HR2.o];exact congrArg (λz=>(⟨z,rc.lh,rc.fin⟩:nL)) bn.o,aH,aJ,aI⟩
     obtain⟨R2,br,bt,HR2,cj,eK,ew⟩:=hcut;obtain⟨bw,ga⟩: ∃x,x=wc:=⟨_,rfl⟩;subst ga;clear ai bf bi ag bj bk bn bm;have dt:Hi (R2.L=ka rc b):=Hd (by rw [HR2.o]);have cT:Hi (R2.L.length=rc.L.length+1):=Hd (by rw [dt.o];exact q4 rc b);have dH:Hi (R2.lh=rc.lh):=Hd (by rw [HR2.o]);have fk:Hi (R2.fin=rc.fin):=Hd (by rw [HR2.o]);obtain⟨aP,c9⟩:=iF (rc.L.length);have bO:=Hd c9;rw [c9]at cT
     (try rw [c9])
     have cZ:wrap64 ((R2.L.length:Int)-1)=(aP:Int):=(by have:=cT.o;have:=aw.o;unfold wrap64;omega);have u0:=(a' cj.o.cc).1;clear c9;go_upto_region 29 with(fail);rw [cZ];clear cZ u0;go_cut [190]from 153 to 190 (λgh wc=>gh= .bool (ng rc id jy)/\Hi (BW bw wc))
     case first=>
      have bq:ng rc id jy=decide (0<=rc.lh/\(jy<xA rc.L rc.lh\/(xA rc.L rc.lh=jy/\r7 rc.L rc.lh<id))):=rfl;obtain⟨bG,bH⟩:=a' eK.o;obtain⟨u0,u1⟩:=a' cj.o.cc;have cG:=dH.o;by_cases ht:0<=rc.lh
      ·obtain⟨k,V⟩: ∃k:Nat,rc.lh=k:=⟨rc.lh.toNat,UN⟩
       have bp:k<rc.L.length:=(by have:=ch.o.2.1;omega);have eV:k<R2.L.length:=(by rw [cT.o];have:=bO.o;omega);obtain⟨bQ,off,d5,d6,rfl,aj, -,c0,c1,c2,av,b0,b1,b4,b5,b6⟩:=o4 cj.o.tK k eV;have bR:R2.L[k]=rc.L[k]:=(by simp only [dt.o];exact kz k bp);rw [bR]at b4 b6;rw [V,tr _ _ bp,yg _ _ bp]at bq;rw [V]at cG
       (try unfold mE at u0)
       rw [cG]at u0;generalize rc.L[k].jy=bx at*;generalize rc.L[k].id=gv at*
       have au:decide ((0:Int)<=(k:Int))=true:=iP UN;have cH:(0:Int)<=(k:Int):=UN;have cI:(k:Int)<(R2.L.length:Int):=UN;clear c0 c1 c2 av b0 b1 b5 aj bR cG eV V ht;by_cases a6:jy<bx
       ·have ab:Hi (ng rc id jy=true):=by show _=_;rw [bq,jk];exact⟨UN,.inl a6⟩
        have cK:decide (jy<bx)=true:=iP a6;clear bq;go_region
        all_goals
         go_wp2;go_meet
         case rel=>exact⟨by rw [ab.o],(g' _ _).drew⟩
       ·have cK:decide (jy<bx)=false:=iH a6
        by_cases bC:bx=jy
        ·have d7:(bx==jy)=true:=by rw [iO];exact bC
         have ab:Hi (ng rc id jy=decide (gv<id)):=Hd (by rw [bq,sr];omega);clear bq bC;go_region
         all_goals
          go_wp2;go_meet
          case rel=>exact⟨by rw [ab.o],(g' _ _).drew⟩
        ·have d7:(bx==jy)=false:=by rw [je];exact bC
         have ab:Hi (ng rc id jy=false):=Hd (by rw [bq,pg];omega);clear bq;go_region
         all_goals
          go_wp2;go_meet
          case rel=>exact⟨by rw [ab.o],(g' _ _).drew⟩
      ·have ab:Hi (ng rc id jy=false):=by show _=_;rw [bq,pg];exact λh=>ht h.1
       have au:decide (0<=rc.lh)=false:=iH ht
       (try unfold mE at u0)
       rw [cG]at u0;clear bq cG;go_region
       all_goals
        go_wp2;go_meet
        case rel=>exact⟨by rw [ab.o],(g' _ _).drew⟩
     obtain⟨rfl,aE⟩:=hcut;obtain⟨d2,gb⟩: ∃x,x=wc:=⟨_,rfl⟩;subst gb;obtain⟨bI,ex⟩:=ik (cj.o.c' aE.o) (jS.c' ew.o aE.o);clear aE cj eK ew;have eJ:Hi (ng rc (iv b) (uh rc b)=ng rc id jy):=Hd (by rw [bL.o,eI.o])
     cases b9:ng rc id jy with
     |true=>
      as_aux_lemma=>
       have fO:Hi (ui r rc b=R2):=Hd (by unfold ui;rw [eJ.o,g7 b9,HR2.o]);have ei:Hi (tO m b=0/\tP m b=0):=by
        have h1:=fc.o;rw [dI.o,bL.o,b9]at h1;unfold tO tP;rw [g3 (by rw [h1];simp),g3 (by rw [h1];simp)];exact⟨rfl,rfl⟩
       clear b9
       go_wp2_with (first
        |(refine kf rfl _ _ rfl w.heap.size rfl _ _ _ _ bI.o.cc underlying39 rfl UQ ?_)
        |(refine kI rfl _ _ _ rfl (w.heap.size+2) _ rfl rfl _ _ bI.o.cr UQ rfl UQ ?_))
       (try simp only [Exit.inBlock,Exit.then])
       refine iQ (v:= .tuple #[.agg (mE false r br bt R2),I0,I0,I0]) ?_ rfl (ov.good dM.o fO.o (by rw [ei.o.1]) (by rw [ei.o.2]) bI.o _);exact sy results9 rfl (kr _ _ _ _ _ _ bI.o.cr) underlying39 rfl UQ
     |false=>
      have e3:ng rc (iv b) (lC m b)=false:=(by rw [bL.o,dI.o];exact b9);have eh:=Hd (KW be.o a2.o eF.o e3);clear e3;obtain⟨u0,u1⟩:=a' bI.o.cc;have d8:=Hd (bI.o.store (oW:=⟨R2.L,aP,R2.fin⟩) 16 (UZ aP) rfl rfl);go_upto_region 32 with(fail);obtain⟨R3,b7⟩: ∃q:nL,q=⟨R2.L,aP,R2.fin⟩:=⟨_,rfl⟩;have eA:=Hd b7;have ck:Hi (Gx r w SP SB br bt R3 (d2.setCell ⟨w.heap.size,16,none⟩ (UZ aP))):=(by rw [b7];exact d8);have ey:=Hd (jS.keep ex.o ((h9 d2 w.heap.size 16 (UZ aP)).mono λk _ V=>by have h1:w.heap.size+3<=k:=V;show k≠_;omega));generalize d2.setCell ⟨w.heap.size,16,none⟩ (UZ aP)=gp at*
      have cq:Hi (R3.L=ka rc b):=Hd (by rw [b7];exact dt.o);have bM:Hi (R3.L.length=aP+1):=Hd (by rw [b7];exact cT.o);have ej:Hi (R3.fin=rc.fin):=Hd (by rw [b7];exact fk.o);have ez:Hi (xJ R3.L):=(by show xJ _;rw [cq.o];exact(FY be.o a2.o eF.o a4.o bB.o none 0).zU);clear u0 u1 d8 bI ex b7
      go_wp2_with (first
       |(refine kf rfl _ _ rfl w.heap.size rfl _ _ _ _ ck.o.cc underlying39 rfl UQ ?_))
      refine(q6 _ false r R3 br bt ez.o R3.L.length gp aP (by have:=bM.o;omega) UN (by have:=bM.o;omega) (by have:=bM.o;have:=aw.o;have:=bO.o;omega) ck.o.tK).mono ?_;rintro e bS⟨v,rfl,aX,dQ⟩;obtain⟨de,df,rfl, -, -⟩:=iW aX;obtain⟨bb,cw⟩:=ik (ck.o.c' dQ) (jS.c' ey.o dQ);have e1:=ck.o.size;obtain⟨l2,cC⟩:=iF (js R3.L R3.L.length aP);have dE:Hi (js (ka rc b) (ka rc b).length rc.L.length=l2):=Hd (by rw [<-cC,cq.o,bO.o]);rw [cC]at aX⊢;have cy:Hi (jS.rel (λk=>w.heap.size+3<=k) bS [.slice de l2.length df] l2):=jS.mono aX.slice λk _ V=>iu e1 V;have cu:Hi (l2.length<=101):=Hd (by rw [<-cC];have:=pR R3.L R3.L.length aP;have:=bM.o;have:=aw.o;have:=bO.o;omega);have gx:Hi (∀x∈l2,0<=x/\x<aP+1):=λx e4=>(by rw [<-cC]at e4;have h1:=sB ez.o R3.L.length aP UN (by have:=bM.o;omega) x e4;have:=bM.o;omega);clear cC aX dQ e1 ck ey;have f0:=eB.o.1;have f1:=eB.o.2;obtain⟨u0,u1⟩:=a' bb.o.cc;have cZ:wrap64 ((l2.length:Int)-1)=(l2.length:Int)-1:=(by have:=cu.o;unfold wrap64;omega);have eN:wrap64 ((l2.length:Int)-1-r.fin)=(l2.length:Int)-1-r.fin:=(by have:=cu.o;unfold wrap64;omega);go_upto_region 34 with(fail);rw [eN];obtain⟨al,dW⟩:=iF ((l2.length:Int)-1-r.fin);have el:=Hd dW;have ek:Hi (-2000000<=al/\al<=100/\al<l2.length):=(by have:=cu.o;refine⟨?_,?_,?_⟩<;>omega);rw [dW];have fn:Hi (0<=R3.fin->R3.fin<aP+1):=λh=>(by have:=ej.o;have:=ch.o.2.2.2;have:=bO.o;omega);clear dW cZ eN u0 u1 f0 f1;go_cut [223]from 204 to 223 (λgi wc=>gi= .bool (decide (0<=al/\(R3.fin<0\/mW R3.L R3.fin<al+1)))/\Hi (BW bS wc))
      case first=>
       obtain⟨u0,u1⟩:=a' bb.o.cc;have dV:=ek.o;have gF:wrap64 (al+1)=al+1:=(by unfold wrap64;omega);by_cases a6:0<=al
       ·have au:decide (0<=al)=true:=iP a6
        by_cases bC:R3.fin<0
        ·have ab:Hi (decide (0<=al/\(R3.fin<0\/mW R3.L R3.fin<al+1))=true):=iP ⟨a6,.inl bC⟩
         have cK:decide (R3.fin<0)=true:=iP bC;clear dV;go_wp2;go_meet
         case rel=>exact⟨by rw [ab.o],g' _ _⟩
        ·obtain⟨k,V⟩: ∃k:Nat,R3.fin=k:=⟨R3.fin.toNat,UN⟩
         have bp:k<R3.L.length:=(by have h1:=fn.o UN;have:=bM.o;omega);obtain⟨bQ,off,d5,d6,rfl,aj, -,c0,c1, -⟩:=o4 bb.o.tK k bp;have ab:Hi (decide (0<=al/\(R3.fin<0\/mW R3.L R3.fin<al+1))=decide (R3.L[k].b.f'<al+1)):=by
          show _=_;rw [sr,V,tw _ _ bp];exact⟨λh=>by rcases h.2 with h|h;omega;exact h,λh=>⟨a6,.inr h⟩⟩
         (try unfold mE at u0)
         rw [V]at u0;have cK:decide ((k:Int)<0)=false:=iH UN;have cH:(0:Int)<=(k:Int):=UN;have cI:(k:Int)<(R3.L.length:Int):=UN;obtain⟨gu,e6⟩:=iF (R3.L[k].b.f');rw [e6]at ab c1;clear V e6 c0 aj dV;go_wp2;go_meet
         case rel=>exact⟨by rw [ab.o],g' _ _⟩
       ·have ab:Hi (decide (0<=al/\(R3.fin<0\/mW R3.L R3.fin<al+1))=false):=iH λh=>a6 h.1
        have au:decide (0<=al)=false:=iH a6;clear dV;go_wp2;go_meet
        case rel=>exact⟨by rw [ab.o],g' _ _⟩
      obtain⟨rfl,aE⟩:=hcut;obtain⟨e8,gf⟩: ∃x,x=wc:=⟨_,rfl⟩;subst gf;obtain⟨cO,dx,cU⟩:=kT (bb.o.c' aE.o) (jS.c' cw.o aE.o) (jS.c' cy.o aE.o);have dr:Hi (Ec r (ka rc b) l2 rc.fin=if 0<=al/\(R3.fin<0\/mW R3.L R3.fin<al+1)then l2.getD al.toNat 0 else R3.fin):=by
       show _=_;unfold Ec;rw [el.o,cq.o,ej.o,show(l2.length:Int)-r.fin=al+1 by have:=el.o;omega]
      have eG:Hi (ui r rc b=⟨ka rc b,rc.L.length,Ec r (ka rc b) l2 rc.fin⟩):=Hd (by unfold ui;rw [eJ.o,g3 (by rw [b9];simp),dE.o]);clear aE bb cw cy b9;go_upto_if 223 with(fail);go_cut [227]from 223 to 228 (λgL wc=> ∃bZ:nL,Hi (bZ=ui r rc b)/\Hi (Gx r w SP SB br bt bZ wc)/\Hi (jS.rel (λk=>w.heap.size+3<=k) wc [.slice oa l1.length oc] l1)/\Hi (jS.rel (λk=>w.heap.size+3<=k) wc [.slice de l2.length df] l2))
      case first=>
       by_cases b8:0<=al/\(R3.fin<0\/mW R3.L R3.fin<al+1)
       ·obtain⟨q,bR⟩: ∃q:Nat,al=q:=⟨al.toNat,UN⟩
        have eY:q<l2.length:=(by have:=ek.o;omega);obtain⟨gE,gH,rfl, -,c0⟩:=ints_at cU.o q eY;have cQ:Hi (Ec r (ka rc b) l2 rc.fin=l2[q]):=Hd (by rw [dr.o,g7 b8,bR,jJ,U5,z2 eY];rfl);have au:decide (0<=al/\(R3.fin<0\/mW R3.L R3.fin<al+1))=true:=iP b8;obtain⟨cJ,e5⟩:=iF (l2[q]);rw [e5]at cQ c0;have fb:=Hd (cO.o.store (oW:=⟨R3.L,R3.lh,cJ⟩) 17 (UZ cJ) rfl rfl);have fp:=Hd (jS.keep dx.o ((h9 e8 w.heap.size 17 (UZ cJ)).mono λk _ V=>by have h1:w.heap.size+3<=k:=V;show k≠_;omega));have fv:=Hd (jS.keep cU.o ((h9 e8 w.heap.size 17 (UZ cJ)).mono λk _ V=>by have h1:w.heap.size+3<=k:=V;show k≠_;omega));have cH:(0:Int)<=(q:Int):=UN;have cI:(q:Int)<(l2.length:Int):=UN;obtain⟨u0,u1⟩:=a' cO.o.cc;rw [au];subst bR;clear b8 e5 au;go_wp2;go_meet
        case rel=>exact⟨⟨R3.L,R3.lh,cJ⟩,by show _=_;rw [eG.o,cQ.o,cq.o,eA.o,bO.o],fb,fp,fv⟩
       ·have au:decide (0<=al/\(R3.fin<0\/mW R3.L R3.fin<al+1))=false:=iH b8
        have cQ:Hi (Ec r (ka rc b) l2 rc.fin=R3.fin):=Hd (by rw [dr.o,g3 b8]);rw [au];clear b8 au;go_wp2;go_meet
        case rel=>exact⟨R3,by show _=_;rw [eG.o,cQ.o,cq.o.symm,bO.o];rw [eA.o],cO,dx,cU⟩
      obtain⟨bZ,fF,bb,cw,cy⟩:=hcut;obtain⟨bS,gd⟩: ∃x,x=wc:=⟨_,rfl⟩;subst gd;clear cO dx cU dr;go_upto_region 36 with(fail);refine qS (S:=n9 w.heap.size (UV false r br bt bZ)) UQ (n9.of (oN (a' bb.o.cc).1) (Br bS).drew) (λhHeld=> ?_);go_simp;refine xp 0 rfl (pe (by rfl) _ _ rfl (w.heap.size) (0) rfl (UV false r br bt bZ) _ (λa9 ao=>ao.r2) underlying39 rfl UQ) ?_;go_simp;refine kL 1 ?_;go_simp;refine kL 2 ?_;go_simp;refine kL 4 ?_;go_simp;refine kL 5 ?_;go_simp;refine l8 3 rfl (λK G=> ?_);go_simp;refine UR (UL _ _ _ oa de l1.length oc l2.length df l1 l2 rfl rfl (jS.c' cw.o (Br bS).drew) (jS.c' cy.o (Br bS).drew) (by have:=bN.o;omega) (by have:=cu.o;omega)) λgN eS=> ?_;have dR:=d' (Br bS).drew eS;have dh:=Hd dR;have fY:=n9.of (oN (a' bb.o.cc).1) dR;clear eS dR;clear hHeld;refine G.out _ _ (fY) (λhHeld=> ?_);clear G K;go_simp;refine l8 6 rfl (λK G=> ?_);go_simp;refine UR (UL _ _ _ de oa l2.length df l1.length oc l2 l1 rfl rfl (jS.c' cy.o dh.o) (jS.c' cw.o dh.o) (by have:=cu.o;omega) (by have:=bN.o;omega)) λgO eT=> ?_;have c5:=d' dh.o eT;obtain⟨gw,dq⟩:=ik c5 (bb.o.c' c5);have fZ:=n9.of (oN (a' bb.o.cc).1) c5;clear eT c5;clear hHeld;refine G.out _ _ (fZ) (λhHeld=> ?_);clear G K;go_simp;refine l8 7 rfl (λK G=> ?_);refine k6 rfl _ _ _ rfl (w.heap.size+2) _ rfl rfl _ _ dq.o.cr UQ rfl UQ ?_;refine G.out _ _ (hHeld.row (q:=w.heap.size+2) UN _) (λhHeld=> ?_);clear G K;go_simp;refine kL 8 ?_;go_simp;refine kL 9 ?_;go_simp;refine kL 10 ?_;go_simp;refine mA UT ?_ _
      (try simp only [Exit.then])
      go_wp2_with fail
      (try simp only [Exit.inBlock,Exit.then])
      refine iQ (v:= .tuple #[.agg (mE false r br bt bZ),UZ (tR l1 l2),UZ (tR l2 l1),I0]) ?_ rfl (ov.good dM.o fF.o.symm (by rw [<-eh.o.1,<-dD.o,<-dE.o]) (by rw [<-eh.o.2,<-dD.o,<-dE.o]) dq.o _);exact sy results9 rfl (kr _ _ _ _ _ _ dq.o.cr) underlying39 rfl UQ
end Go.Proofs.YtjdiofjjoefnhaaGreatDoor
