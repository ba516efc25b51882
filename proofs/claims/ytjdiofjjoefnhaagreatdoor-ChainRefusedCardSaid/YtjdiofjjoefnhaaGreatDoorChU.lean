/- The chain of the program: Submit. -/
import Derived.Test.YtjdiofjjoefnhaaGreatDoorMChB
set_option maxRecDepth 100000
set_option maxHeartbeats 2000000
namespace Go.Proofs.YtjdiofjjoefnhaaGreatDoor
open Tryz Go.ChangeShapes Go.WideShapes Go.ChangeAt Go.RowKit Go.Sort
theorem C' (b:hV):iZ (iv b):=by
 have h:=Eq b;unfold iv;split
 ·exact ir h.1 UN
 ·exact ir UN UN
def tO (m:k7)(b:hV):Int:=if rj m b=true then (m.best.length:Int)-oI (iI m.L b) m.best else 0
def tP (m:k7)(b:hV):Int:=if rj m b=true then ((iI m.L b).length:Int)+1-oI (iI m.L b) m.best else 0
def Eu (c:Nat)(SB PI:UO)(v:p3)(w:World)(r:i4)(m:k7)(b:hV)(e:Ending)(w':World):Prop:=
 (l' r m b≠0/\e= .returned (.tuple #[I0,I0,UZ (l' r m b)])/\ ∃(ob:UO) (y:p2),j5 c SB ob w' r m (iG m.L m.best) { v with pv:=y }/\lq c SB PI v w SB ob { v with pv:=y } w')\/
 (l' r m b=0/\e= .returned (.tuple #[UZ (tO m b),UZ (tP m b),I0])/\ ∃(j:UP) (u:Nat) (vf ob:UO) (v':p3),j5 c vf ob w' r (pk r m b j u) (iG (pk r m b j u).L (pk r m b j u).best) v'/\lq c SB PI v w vf ob v' w')
theorem pW {c:Nat}{SB PI:UO}{v:p3}{w w':World}{r:i4}{m:k7}{b:hV}(h:j5 c SB PI w r m (iG m.L m.best) v)(j:BW w w'){E:Int}(u:l' r m b=E)(y:E≠0):
 Eu c SB PI v w r m b (.returned (.tuple #[I0,I0,UZ E])) w':=
 .inl ⟨by rw [u];exact y,by rw [u],PI,v.pv,h.c' j,lq.below j⟩
theorem Cp (r:i4)(l:List jO)(i:Nat)(h:i<l.length):pJ r (l.drop i)=if kF r.depth r.bl r.bu r.qu r.iz r.win r.fin r.work l[i]=0 then pJ r (l.drop (i+1))else kF r.depth r.bl r.bu r.qu r.iz r.win r.fin r.work l[i]:=by
 rw [TU h];rfl
def wY (l j:List Int)(n:Nat):Bool:=decide (n<l.length/\n<j.length/\l.getD n 0=j.getD n 0)
theorem Ht {l j:List Int}{n:Nat}(ht:l.take n=j.take n)(h:wY l j n=true):n+1<=l.length/\n+1<=j.length/\Hi (l.take (n+1)=j.take (n+1)):=by
 unfold wY at h;rw [jk]at h;obtain⟨h1,h2,u⟩:=h;refine⟨h1,h2,?_⟩;show _=_;rw [z4 h1,z4 h2,ht];rw [U5,z2 h1,U5,z2 h2]at u;have y:l[n]=j[n]:=u;rw [y]
theorem Fj {l j:List Int}{n:Nat}(h1:n<=l.length)(h2:n<=j.length)(ht:l.take n=j.take n)(h:wY l j n=false):oI l j=n:=by
 unfold wY at h;rw [pg]at h;exact AA l j n h1 h2 ht λa b c=>h ⟨a,b,c⟩
theorem FW (m:k7)(b:hV)(h:iZ b.work):iZ (lC m b):=by
 unfold lC;split
 ·have h1:jh (b.work+((iA m.L b.parent).map (·.jy)).getD 0)=(b.work+((iA m.L b.parent).map (·.jy)).getD 0) % 18446744073709551616:=jP _
  exact ir (by rw [h1];omega) (by rw [h1];omega)
 ·exact h
def xV (j:World)(m:k7)(mb:Nat)(id:Int)(b:hV)(jy:Int)(wp:World):Prop:=
 ∃(u:UP) (y:Nat),nn wp mb (m.L++ [(⟨id,b,jy,u,y⟩:mB)])/\i7 (λk=>j.heap.size<=k) wp b u y/\Kept (λk=>k≠mb) j wp
theorem xV.mk {j u wp:World}{m:k7}{mb:Nat}{id:Int}{b:hV}{jy:Int}(y:UP)(z:Nat)(hlt:mb<j.heap.size)(h:nn wp mb (m.L++ [(⟨id,b,jy,y,z⟩:mB)]))(U:i7 (λk=>j.heap.size<=k) u b y z)(K:BW j u)(G:tZ mb u wp):xV j m mb id b jy wp:=
 ⟨y,z,h,U.keep (Kept.mono G λk _ V=>by have:j.heap.size<=k:=V;omega),(Kept.of_below K).trans G λ_ _ h=>h⟩
section
variable {r:i4} {m:k7} {b:hV}
theorem Cu (h:iN r.work b≠0):l' r m b=iN r.work b:=by unfold l';rw [g3 h]
theorem xY (h:iN r.work b=0)(h2:(iA m.L (iv b)).isSome=true):l' r m b=5:=by unfold l';rw [g7 h,g7 h2]
theorem Ct (h:iN r.work b=0)(h2:iA m.L (iv b)=none)(j:kd m.L b≠0):l' r m b=kd m.L b:=by
 unfold l';rw [g7 h,h2,g3 j];rfl
theorem xZ (h:iN r.work b=0)(h2:iA m.L (iv b)=none)(j:kd m.L b=0)(u:r8 m (iI m.L b)=true):l' r m b=19:=by
 unfold l';rw [g7 h,h2,g7 j,g7 u];rfl
theorem Cs (h:iN r.work b=0)(h2:iA m.L (iv b)=none)(j:kd m.L b=0)(u:r8 m (iI m.L b)=false)(y:pJ r b.hQ≠0):l' r m b=pJ r b.hQ:=by
 unfold l';rw [g7 h,h2,g7 j,u,g3 y];rfl
theorem sC (h:iN r.work b=0)(h2:iA m.L (iv b)=none)(j:kd m.L b=0)(u:r8 m (iI m.L b)=false)(y:pJ r b.hQ=0):l' r m b=jF r (jl r (iG m.L (iI m.L b))) b:=by
 unfold l';rw [g7 h,h2,g7 j,u,g7 y];rfl
end
theorem ry (c:Nat)(SB PI:UO)(w:World)(r:i4)(hr:oo r)(ex:r.mode=2)(m:k7)(v:p3)(h:j5 c SB PI w r m (iG m.L m.best) v)(ok:lE r m)(ey:m.L.length<=100)(S:UO)(b:hV)(xa:UP)(xc:Nat)(au:i7 S w b xa xc)(ec: ∀k,S k-> ¬jG c v k)(eB: ∀t∈b.hQ,t.marks.length<=100/\t.outs.length<=100/\t.proof.length<=1000000/\ ∀o∈t.outs,o.ha.length<=1000):
 Calls prog 8 #[.pointer (some ⟨c,0,none⟩),.agg (jI b xa xc)] w (Eu c SB PI v w r m b):=by
 have bV:=jc w (.cells (jI b xa xc) 44);have cG:=Hd (gY w (.cells (jI b xa xc) 44));have b6:=Hd (h.c' bV);have eh:i7 (λk=>S k/\k<w.heap.size) w b xa xc:=⟨au.parent,au.f',au.hJ,au.work,au.e',my.bound au.hQ⟩;obtain⟨co,dh,al,aZ,dG,ai,bO⟩:=OT (eh.c' bV) bV h hr ex ok ey;have cv:Hi (∀k,S k/\k<w.heap.size-> ¬jG c v k/\k<w.heap.size):=λk z=>⟨ec k z.1,z.2⟩;obtain⟨dM,dJ⟩:=ik eB au.pos;have c3:=au.parent;have fB:=au.work;clear bV h hr ex ok ey au ec eB eh;go_in;go_upto_region 1 with(fail);generalize w.alloc (.cells (jI b xa xc) 44)=W at*;have af:=g0 cG.o;have K:=g0 b6.o.cell;simp only [jw]at K;have aQ: ∀(d:Nat) (os:Array Obj),_:=λd os=>BP _ (grow (redrawn W d) os) r.mode r.depth r.bl r.bu r.qu r.iz r.win r.fin r.work b xa xc (co.o.c' (lm W d os));go_wp2;refine m6 ?_
 repeat (first|go_big_quiet_step (exact ie (aQ _ _))|quiet_step (exact ie (aQ _ _)))
 refine lz ?_;intro w1 eo;clear af K aQ;have hb1:=eo;obtain⟨cH,de,cp,cj⟩:=oX (b' hb1 cG.o) (b6.o.c' hb1) (co.o.c' hb1) (d' dh.o hb1);clear eo hb1 cG b6 co dh;by_cases h1:iN r.work b=0;rotate_left
 ·have aC:(iN r.work b != 0)=true:=by rw [iB];exact h1
  obtain⟨V,aJ⟩:=ik (Cu (m:=m) h1) h1;generalize iN r.work b=E at*;clear h1;go_wp2_with fail;go_ret3;exact pW al.o cj.o V.o aJ.o
 have be:=Hd h1;obtain⟨eG, -⟩:=kX h1;obtain⟨et,ft, -, -, -, -,ek⟩:=kQ eG;rw [h1];clear h1 eG;obtain⟨af,ap⟩:=a' cH.o;go_wp2_with fail;refine UR (Hz _ w1 b xa xc cp.o) λw2 hb2=> ?_;obtain⟨dZ,bC,du,ck⟩:=oX (b' hb2 cH.o) (de.o.c' hb2) (cp.o.c' hb2) (d' cj.o hb2);have bw:=C' b;clear af ap hb2 cH de cp cj;obtain⟨K,aW⟩:=a' bC.o.cell;simp only [jw]at K;have b1:=bC.o.map.look_ok (iv b) bw
 cases a5:iA m.L (iv b)with
 |some U=>
  have V:=Hd (xY (r:=r) (m:=m) be.o (by rw [a5];rfl));have cZ:(Instr.lookup 77 (.map (some v.mb)) (U2 (iv b)) true).run prog w2= .ok (.tuple #[.agg #[U.b.parent,UZ U.b.f',U.b.hJ,U.b.work,U.b.e',.slice U.xa U.b.hQ.length U.xc,U.jy],true]) w2:=by rw [b1,a5];rfl
  generalize iv b=id at*;clear b1 a5;go_wp2_with fail;go_ret3;exact pW al.o (hd ck.o _) V.o UN
 |none=>
  have bf:=Hd a5;have cZ:(Instr.lookup 77 (.map (some v.mb)) (U2 (iv b)) true).run prog w2= .ok (.tuple #[.agg #[U0,I0,U0,U0,U0,S0,U0],false]) w2:=by rw [b1,a5];rfl
  obtain⟨id,bZ⟩:=iF (iv b);have bM:=Hd bZ;rw [bZ]at cZ bw;rw [bZ];clear b1 a5 bZ;go_upto_region 8 with(fail);have hb3:=jc w2 (.cells #[U0,I0,U0,U0,U0,S0,U0] 81);obtain⟨cI,b7,dv,di⟩:=oX (b' hb3 dZ.o) (bC.o.c' hb3) (du.o.c' hb3) (d' ck.o hb3);generalize w2.alloc (.cells #[U0,I0,U0,U0,U0,S0,U0] 81)=fH at*;clear cZ K aW hb3 dZ bC du ck;obtain⟨af,ap⟩:=a' cI.o;go_wp2_with fail;refine UR (E0 c SB PI fH r m (iG m.L m.best) v b7.o b xa xc c3 et ft) λak bq=> ?_;obtain⟨cJ,aX,dw,bb⟩:=oX (b' bq cI.o) (b7.o.c' bq) (dv.o.c' bq) (d' di.o bq);clear af ap bq cI b7 dv di;by_cases G:kd m.L b=0;rotate_left
  ·have aC:(kd m.L b != 0)=true:=by rw [iB];exact G
   obtain⟨V,aJ⟩:=ik (Ct be.o bf.o G) G;generalize kd m.L b=E at*;clear G;go_wp2_with fail;go_ret3;exact pW al.o bb.o V.o aJ.o
  have bI:=Hd G;obtain⟨hw,el,em,en⟩:=qi ai.o et G;rw [G];have cU:=hw.len ai.o.high;obtain⟨cF,dp,bG⟩:=kT hw em en;obtain⟨j,cW⟩:=iF (iI m.L b);have ax:=Hd cW;rw [cW]at cF dp bG el cU;clear G hw em en cW;have dH:Hi (b.f'=(j.length:Nat)+1):=Hd UN;have br:j.length<=100:=iu cU bO.o;obtain⟨af,ap⟩:=a' cJ.o;go_wp2_with fail;refine(Fu c SB PI ak r m (iG m.L m.best) v aX.o b xa xc c3 j.length dH.o UN j cF.o rfl dp.o).mono ?_;rintro e c8⟨u,rfl,c5,hb5⟩;obtain⟨ba,bc,rfl, -, -⟩:=iW c5;obtain⟨cA,eK⟩:=ik c5 hb5;have bm:Hi (∀k,(False\/ak.heap.size<=k)-> ¬jG c v k):=λk z ae=>by
   have h1:=al.o.ki k ae;have h2:=bb.o.size;rcases z with z|z
   ·exact z
   ·omega
  have bk:Hi (w.heap.size<=ak.heap.size):=bb.o.size;obtain⟨d2,b8,dx,dj⟩:=oX (b' hb5 cJ.o) (aX.o.c' hb5) (dw.o.c' hb5) (d' bb.o hb5);clear af ap c5 hb5 cJ aX dw bb el cU;go_upto_region 12 with(fail);have fW:m.hgt<=1000:=by have:=ai.o.fin.1;have:=ai.o.best.len ai.o.high;have:=bO.o;omega
  go_cut [78]from 50 to 78 (λfF wc=>fF= .bool (r8 m j)/\Hi (BW c8 wc))
  case first=>
   obtain⟨K,aW⟩:=a' b8.o.cell;simp only [jw]at K;have bK:Hi (r8 m j=decide (0<m.hgt/\(j.length<m.hgt\/j.getD (m.hgt-1) 0≠m.final))):=rfl;by_cases aM:0<m.hgt
   ·by_cases a4:j.length<m.hgt
    ·have V:Hi (r8 m j=true):=by show _=_;rw [bK.o,jk];exact⟨aM,.inl a4⟩
     have aC:decide ((0:Int)<(m.hgt:Int))=true:=iP UN;have dd:decide ((j.length:Int)<(m.hgt:Int))=true:=iP UN;go_region
     all_goals
      go_wp2;go_meet
      case rel=>exact⟨by rw [V.o],(g' _ _).drew⟩
    ·obtain⟨k,z⟩: ∃k,m.hgt=k+1:=⟨m.hgt-1,UN⟩
     have hlt:k<j.length:=UN;obtain⟨d8,off,cS,bW,cP,cQ,fo⟩:=il cA.o.slice k hlt;have bv:j.getD k 0=j[k]:=(by rw [U5,z2 hlt];rfl);have V:Hi (r8 m j=(j[k] != m.final)):=by
      show _=_;rw [bK.o,z,qT,bv];have fj: ¬j.length<k+1:=UN;simp [fj,bne,Bool.beq_eq_decide_eq]
     generalize j[k]=y at*
     have aC:decide ((0:Int)<(m.hgt:Int))=true:=iP UN;have dd:decide ((j.length:Int)<(m.hgt:Int))=false:=iH UN;have f8:IntKind.i64.wrap ((m.hgt:Int)-1)=(k:Int):=(by rw [rX];omega);have f9:wrap64 ((m.hgt:Int)-1)=(k:Int):=(by unfold wrap64;omega);have ga:(k:Int)<(j.length:Int):=UN;have fM:(0:Int)<=(k:Int):=UN;have fN:(y != m.final)=r8 m j:=V.o.symm;generalize r8 m j=fi at*;subst cS;have fR:(0:Int)<(m.hgt:Int):=UN;have fS: ¬(j.length:Int)<(m.hgt:Int):=UN;clear z hlt bv bK V bW cP cQ;go_region
     all_goals
      go_wp2;go_meet
      case rel=>exact⟨rfl,(g' _ _).drew⟩
   ·have V:Hi (r8 m j=false):=by show _=_;rw [bK.o,pg];exact λh=>aM h.1
    have aC:decide ((0:Int)<(m.hgt:Int))=false:=iH UN;go_region
    all_goals
     go_wp2;go_meet
     case rel=>exact⟨by rw [V.o],(g' _ _).drew⟩
  obtain⟨rfl,aH⟩:=hcut;obtain⟨cK,b9,cq,dT,bE⟩:=zL (b' aH.o d2.o) (b8.o.c' aH.o) (dx.o.c' aH.o) (cA.o.c' aH.o) (d' dj.o aH.o);have eZ:Hi (ak.heap.size<=c8.heap.size):=eK.o.size;have eU:Hi (c8.heap.size<=wc.heap.size):=aH.o.size;clear aH d2 b8 dx cA dj
  cases bY:r8 m j with
  |true=>
   have V:=Hd (xZ (r:=r) be.o bf.o bI.o (by rw [ax.o];exact bY));clear bY;go_wp2_with fail;go_ret3;exact pW al.o bE.o V.o UN
  |false=>
   have dr:Hi (r8 m (iI m.L b)=false):=Hd (by rw [ax.o];exact bY);clear bY;have dS:=Hd cq.o.hQ;obtain⟨af,ap⟩:=a' cK.o;go_wp2_with fail;clear af ap;go_loopw [82] (λaU wr=> ∃i:Nat,i<=b.hQ.length/\aU= UZ i/\Hi (pJ r (b.hQ.drop i)=pJ r b.hQ)/\Hi (BW wc wr)) (λaU _=>b.hQ.length-(intOf aU).toNat)
   case atStart=>exact⟨0,iy _,rfl,rfl,g' _ _⟩
   case round=>
    obtain⟨i,hi,rfl,ao,ad⟩:=hrel;by_cases hlt:i<b.hQ.length
    ·obtain⟨d8,off,ma,oa,pa,mc,oc,pc,rfl,bW,ht,c0,c1,c2,fa,fb,fc,fd,fe,ff,fg⟩:=oq (my.c' dS.o ad.o) i hlt
     have bR:=Hd (ao.o.symm.trans (Cp r b.hQ i hlt));obtain⟨s1,s2,s3,s4⟩:=dM.o b.hQ[i] (z3 hlt);generalize b.hQ[i]=t at*;have br:=jc wr (.cells (jQ t ma mc oa oc pa pc) 87);have bQ:=Hd (ht.c' br);have dA:=Hd (gY wr (.cells (jQ t ma mc oa oc pa pc) 87));obtain⟨cd,dm⟩:=ik (b9.o.c' (d' ad.o br)) (d' ad.o br);have f2:(0:Int)<=(i:Int):=UN;have f3:(i:Int)<(b.hQ.length:Int):=UN;have fy:t.proof.length<=1000000:=s3;clear ht br s1 s2 s3 s4 ao ad;go_upto_region 17 with(fail);clear c0 c1 c2 fa fb fc fd fe ff fg;generalize wr.alloc (.cells (jQ t ma mc oa oc pa pc) 87)=db at*;have af:=g0 dA.o;have K:=g0 cd.o.cell;simp only [jw]at K;rw [dG.o]at K;have aQ: ∀(d:Nat) (os:Array Obj),_:=λd os=>Fs _ (grow (redrawn db d) os) v.op 0 (((cd.o.Na dG.o).at').c' (lm db d os)) r.depth r.bl r.bu r.qu r.iz r.win r.fin r.work t ma oa pa mc oc pc (bQ.o.c' (lm db d os)) fy;go_wp2;refine m6 ?_
     repeat (first|go_big_quiet_step (exact ie (aQ _ _))|quiet_step (exact ie (aQ _ _)))
     refine lz ?_;intro wq er;clear af K aQ;have dn:=Hd (d' dm.o er);clear er cd bQ dA dm;by_cases aG:kF r.depth r.bl r.bu r.qu r.iz r.win r.fin r.work t=0
     ·have bj:=Hd (bR.o.trans (g7 aG)).symm
      rw [aG];clear aG bR;go_wp2;go_roundw
      case rel=>exact⟨i+1,UN,by go_num,bj,dn⟩
      case measure=>exact UY
     ·have bj:=Hd (bR.o.trans (g3 aG))
      have aC:(kF r.depth r.bl r.bu r.qu r.iz r.win r.fin r.work t != 0)=true:=(by rw [iB];exact aG);have V:=Hd ((Cs be.o bf.o bI.o dr.o (by rw [bj.o];exact aG)).trans bj.o);have aJ:=Hd aG;generalize kF r.depth r.bl r.bu r.qu r.iz r.win r.fin r.work t=E at*;clear aG bR bj;go_wp2_with fail;go_ret3;exact pW al.o (d' bE.o dn.o) V.o aJ.o
    ·obtain rfl:i=b.hQ.length:=UN
     have eN:Hi (pJ r b.hQ=0):=by
      have h:=ao.o;rw [UD]at h;exact h.symm
     obtain⟨d3,bD,dy,cB,dk⟩:=zL (b' ad.o cK.o) (b9.o.c' ad.o) (cq.o.c' ad.o) (dT.o.c' ad.o) (d' bE.o ad.o);have eV:Hi (wc.heap.size<=wr.heap.size):=ad.o.size;clear ad cK b9 cq dT bE ao dS hi hlt;obtain⟨da,fA⟩: ∃x,x=wr:=⟨_,rfl⟩;subst fA;have fU:m.best.length<=100:=iu (ai.o.best.len ai.o.high) bO.o;go_wp2;go_loopw [16] (λaU wr=> ∃n:Nat,n<=j.length/\n<=m.best.length/\aU= UZ n/\Hi (j.take n=m.best.take n)/\Hi (BW da wr)) (λaU _=>j.length-(intOf aU).toNat)
     case atStart=>exact⟨0,iy _,iy _,rfl,rfl,g' _ _⟩
     case round=>
      obtain⟨n,bx,a6,rfl,ao,ad⟩:=hrel;go_upto_region 22 with(fail);go_cut [126]from 100 to 128 (λfE wc=>fE= .bool (wY j m.best n)/\Hi (BW da wc))
      case first=>
       obtain⟨K,aW⟩:=a' (bD.o.c' ad.o).cell;simp only [jw]at K;have bJ:Hi (wY j m.best n=decide (n<j.length/\n<m.best.length/\j.getD n 0=m.best.getD n 0)):=rfl;by_cases aM:n<j.length
       ·by_cases a4:n<m.best.length
        ·obtain⟨d8,off,cS,bW,cP,cQ,fo⟩:=il (cB.o.c' ad.o).slice n aM
         obtain⟨bd,f4,ei,fm,fk,fl,fV⟩:=il (bD.o.c' ad.o).best n a4;have bv:j.getD n 0=j[n]:=(by rw [U5,z2 aM];rfl);have es:m.best.getD n 0=m.best[n]:=(by rw [U5,z2 a4];rfl);have V:Hi (wY j m.best n=(j[n]==m.best[n])):=by
          show _=_;rw [bJ.o,bv,es];simp [aM,a4,Bool.beq_eq_decide_eq]
         generalize j[n]=y at*;generalize m.best[n]=fL at*;have fN:(y==fL)=wY j m.best n:=V.o.symm;generalize wY j m.best n=fi at*
         have aC:decide ((n:Int)<(j.length:Int))=true:=iP UN;have dd:decide ((n:Int)<(m.best.length:Int))=true:=iP UN;have fM:(0:Int)<=(n:Int):=UN;have gb:(n:Int)<(j.length:Int):=UN;have gd:(n:Int)<(m.best.length:Int):=UN;rw [ei]at K;subst cS;clear bv es bJ V bW cP cQ fm fk fl ei;go_region
         all_goals
          go_wp2;go_meet
          case rel=>exact⟨rfl,ad.o.drew⟩
        ·have V:Hi (wY j m.best n=false):=by show _=_;rw [bJ.o,pg];exact λh=>a4 h.2.1
         have aC:decide ((n:Int)<(j.length:Int))=true:=iP UN;have dd:decide ((n:Int)<(m.best.length:Int))=false:=iH UN;go_region
         all_goals
          go_wp2;go_meet
          case rel=>exact⟨by rw [V.o],ad.o.drew⟩
       ·have V:Hi (wY j m.best n=false):=by show _=_;rw [bJ.o,pg];exact λh=>aM h.1
        have aC:decide ((n:Int)<(j.length:Int))=false:=iH UN;go_region
        all_goals
         go_wp2;go_meet
         case rel=>exact⟨by rw [V.o],ad.o.drew⟩
      case rest=>
       obtain⟨rfl,aE⟩:=hcut;clear ad
       cases bX:wY j m.best n with
       |true=>
        obtain⟨q1,q2,bQ⟩:=Ht ao.o bX;clear bX ao;go_wp2;go_roundw
        case rel=>exact⟨n+1,q1,q2,by go_num,bQ,aE⟩
        case measure=>exact UY
       |false=>
        have dI:Hi (oI j m.best=n):=Fj bx a6 ao.o bX;clear bX;obtain⟨d4,aw,dz,dU,dl⟩:=zL (b' aE.o d3.o) (bD.o.c' aE.o) (dy.o.c' aE.o) (cB.o.c' aE.o) (d' dk.o aE.o);have e0:Hi (ak.heap.size<=da.heap.size):=iu eZ.o (iu eU.o eV.o);have e1:Hi (ak.heap.size<=wc.heap.size):=iu e0.o aE.o.size;clear aE d3 bD dy cB dk;have bA:=λw=>AS w v.ba m.best.length v.bc n a6;have bB:=λw=>AS w ba j.length bc n bx;have K:=g0 aw.o.cell;simp only [jw]at K;go_wp2_with fail;refine hI 10 UQ UQ ?_;simp only [Tr,U6,Ty,Tg]
        repeat (first|go_big_quiet_step (fail)|quiet_step (fail))
        refine lz ?_;intro wd aO;clear K bA bB;have e2:Hi (ak.heap.size<=wd.heap.size):=iu e1.o aO.size;obtain⟨cL,dg,dB⟩:=kT (b' aO d4.o) (aw.o.c' aO) (dz.o.c' aO);have cC:=Hd (dU.o.c' aO).bound;have dq:=Hd (d' dl.o aO);clear aO d4 aw dz dU dl;go_wp2_with fail;refine(En c SB PI wd r aZ.o m m.best j n v dg.o ai.o.Ef bG.o ao.o.symm bx UN UN _ _ _ _ _ cC.o.slice (λk z=>bm.o k z.1) cF.o).mono ?_;rintro e fK⟨rfl,bT,b5,ed,aT⟩;have fD: ¬jG c v w.heap.size:=λae=>pK _ (al.o.ki _ ae);have dR:Hi (∀k,¬jG c v k->k<wd.heap.size-> ¬jG c { v with pv:=b5 } k):=λk h1 h2 ae=>by
         rcases aT.turn k ae with G|G
         ·exact h1 G
         ·omega
        have e4:Hi (w.heap.size<wd.heap.size):=ii cL.o;obtain⟨dL,cg⟩:=ik aT ed;have dQ:Hi (lq c SB PI v w SB bT { v with pv:=b5 } fK):=(lq.below (SB:=SB) (PI:=PI) dq.o).trans aT;have cN:=Hd (hE aT.kept cL.o fD);have dF:=Hd (dB.o.keep (aT.kept.mono λk _ z=>(cv.o k z).1));have dY:=Hd (cC.o.keep (aT.kept.mono λk _ z=>bm.o k z.1));clear ed aT cL dg dB cC dq;have af:=g0 cN.o;have K:=g0 cg.o.cell;simp only [jw]at K;go_wp2_with fail;refine hI 5 UQ UQ ?_;simp only [Tr,U6,Ty,Tg]
        repeat (first|go_big_quiet_step (fail)|quiet_step (fail))
        refine lz ?_;intro fI aP;clear af K;have cM:=Hd (b' aP cN.o);have dK:=Hd (dL.o.trans (lq.below (SB:=SB) (PI:=bT) aP));obtain⟨a9,bN,cD⟩:=kT (cg.o.c' aP) (dF.o.c' aP) (dY.o.c' aP);have a0:=Hd (dQ.o.trans (lq.below (SB:=SB) (PI:=bT) aP));clear aP cN cg dF dY dQ;have eC: ∀k,(S k/\k<w.heap.size)-> ¬iw v.p b5 k:=λk z ae=>by
         obtain⟨h1,h2⟩:=cv.o k z;rcases a0.o.turn k (.inr (.inr ae))with G|G
         ·exact h1 G
         ·omega
        obtain⟨dN,a8⟩:=ik eC (sC (m:=m) be.o bf.o bI.o dr.o eN.o);rw [ax.o]at a8;clear eC;go_wp2_with fail;refine UR (AF v.p bT fI r aZ.o (iG m.L j) bG.o (by rw [q3];omega) b5 a9.o.state _ b xa xc bN.o ek dN.o) λwa a7=> ?_;by_cases ay:jF r (jl r (iG m.L j)) b=0;rotate_left
        ·have d9:M0 r (jl r (iG m.L j)) b=jl r (iG m.L j):=by unfold M0;rw [g3 ay]
         rw [d9]at a7;obtain⟨ah,aj,bp,az⟩:=a9.o.FK a7;have aD:Hi (j5 c SB ah wa r m (iG m.L j) { v with pv:=aj }):=bp;have bh:=Hd (a0.o.trans az);have aC:(jF r (jl r (iG m.L j)) b != 0)=true:=(by rw [iB];exact ay);have aJ:=Hd ay;generalize jF r (jl r (iG m.L j)) b=E at*;clear a7 bp az cM a9 bN cD a0 d9 ay;have bA:=λw=>AS w v.ba m.best.length v.bc n a6;have bB:=λw=>AS w ba j.length bc n bx;have K:=g0 aD.o.cell;simp only [jw]at K;go_wp2_with fail;refine hI 10 UQ UQ ?_;simp only [Tr,U6,Ty,Tg]
         repeat (first|go_big_quiet_step (fail)|quiet_step (fail))
         refine lz ?_;intro wg aF;clear K bA bB;have aq:=Hd (aD.o.c' aF);have bi:=Hd (bh.o.trans (lq.below (SB:=SB) (PI:=ah) aF));clear aF aD bh;go_wp2_with fail;refine(En c SB ah wg r aZ.o m j m.best n { v with pv:=aj } aq.o bG.o ai.o.Ef ao.o a6 UN UN _ _ _ _ _ aq.o.best (λk z ae=>aq.o.free k ae z) ai.o.best).mono ?_;rintro e fJ⟨rfl,cO,c6,ar,aA⟩;obtain⟨ce,cz⟩:=ik ar (bi.o.trans aA);clear ar aA aq bi;go_wp2_with fail;go_ret3;refine .inl ⟨by rw [a8.o];exact aJ.o,by rw [a8.o];rfl,cO,c6,ce.o,cz.o⟩
        have cw:Hi (l' r m b=0):=a8.o.trans ay;have fO:=Hd ay;rw [Et ay,<-l5]at a7;rw [ay];obtain⟨ah,aj,bp,az⟩:=a9.o.FK a7;have aD:Hi (j5 c SB ah wa r m (iG m.L j++ [b]) { v with pv:=aj }):=bp;have bP:=Hd (dK.o.trans az);have e5:Hi (wd.heap.size<=wa.heap.size):=bP.o.kept.size;have bL:Hi (∀k,ak.heap.size<=k->k<wd.heap.size-> ¬jG c { v with pv:=aj } k/\ ¬ah k/\ ¬SB k):=λk h1 h2=>by
         refine⟨λae=> ?_,λfx=> ?_,λfz=> ?_⟩
         ·rcases bP.o.turn k ae with G|G
          ·exact bm.o k (.inr h1) G
          ·omega
         ·rcases bP.o.MZ k fx with G|G|G
          ·have:=al.o.state.lt k G;have:=bk.o;omega
          ·exact bm.o k (.inr h1) G
          ·omega
         ·have:=al.o.lt k fz;have:=bk.o;omega
        have bh:=Hd (a0.o.trans az);have bS:=Hd (hE az.kept cM.o (dR.o _ (λae=>pK _ (al.o.ki _ ae)) e4.o));have dC:=Hd (bN.o.keep (az.kept.mono λk _ z ae=>by
         obtain⟨h1,h2⟩:=cv.o k z;rcases a0.o.turn _ ae with G|G
         ·exact h1 G
         ·omega))
        have dV:=Hd (cD.o.keep (az.kept.mono λk _ z=>dR.o k (bm.o k z.1) z.2));clear a7 bp az ay a8 cM a9 bN dN cD a0 bP dK dL;obtain⟨af,ap⟩:=a' bS.o;go_upto_if 164 with(fail);go_cut [18]from 160 to 174 (λc7 wc=>c7= U2 (lC m b)/\Hi (BW wa wc))
        case first=>
         have a3:Hi (lC m b=if 0<j.length then jh (b.work+((iA m.L b.parent).map (·.jy)).getD 0)else b.work):=Hd (by rw [<-ax.o];rfl);by_cases eb:0<j.length
         ·have eu:b.f'≠1:=by have:=dH.o;omega
          obtain⟨U,cX, -⟩:=x9 bI.o eu;have V:Hi (lC m b=jh (b.work+U.jy)):=Hd (by rw [a3.o,g7 eb,cX];rfl);have fv: ∀(d:Nat) (os:Array Obj),(Instr.lookup 77 (.map (some v.mb)) (U2 b.parent) false).run prog (grow (redrawn wa d) os)= .ok (.agg #[U.b.parent,UZ U.b.f',U.b.hJ,U.b.work,U.b.e',.slice U.xa U.b.hQ.length U.xc,U.jy]) (grow (redrawn wa d) os):=λd os=>(aD.o.map.c' (lm wa d os)).found b.parent c3 U cX;have fq:=Ge U.b.parent U.b.f' U.b.hJ U.b.work U.b.e' U.jy U.xa U.b.hQ.length U.xc;clear af ap;have af:=g0 bS.o;have K:=g0 aD.o.cell;simp only [jw]at K;have fZ:IntKind.u64.wrap (b.work+U.jy)=jh (b.work+U.jy):=jP _;clear cX eu;go_wp2;refine m6 ?_
          repeat (first|go_big_quiet_step (fail)|quiet_step (fail))
          refine lz ?_;intro f7 fn;clear af K;clear fv fq;go_wp2;go_meet
          case rel=>exact⟨by rw [V.o],fn⟩
         ·have V:Hi (lC m b=b.work):=by show _=_;rw [a3.o,g3 eb]
          go_wp2;go_meet
          case rel=>exact⟨by rw [V.o],g' _ _⟩
        obtain⟨rfl,aI⟩:=hcut;obtain⟨d5,cf,dD,dW⟩:=oX (b' aI.o bS.o) (aD.o.c' aI.o) (dC.o.c' aI.o) (dV.o.c' aI.o);have dO:=Hd (bh.o.trans (lq.below (SB:=SB) (PI:=ah) aI.o));have e6:Hi (wd.heap.size<=wc.heap.size):=iu e5.o aI.o.size;have a3:Hi (iZ (lC m b)):=FW m b fB;clear aI af ap bS aD dC dV bh;go_wp2_with fail;refine UR (Fv c SB ah wc r m (iG m.L j++ [b]) { v with pv:=aj } cf.o UN (λx fC=>by obtain⟨k,z,rfl⟩:=TH fC;obtain⟨e,fp, -⟩:=ai.o.best k z;exact⟨e,fp⟩) id (lC m b)) λav aN=> ?_;obtain⟨d6,aY,dE,dX⟩:=oX (b' aN d5.o) (cf.o.c' aN) (dD.o.c' aN) (dW.o.c' aN);have dP:=Hd (dO.o.trans (lq.below (SB:=SB) (PI:=ah) aN));have d7:Hi (wd.heap.size<=av.heap.size):=iu e6.o aN.size;clear aN d5 cf dD dW dO;obtain⟨bU,cT⟩:=iF (oG m id (lC m b));have bF:Hi (rj m b=bU):=Hd (by rw [<-cT];unfold rj;rw [bM.o]);rw [cT];obtain⟨jy,c4⟩:=iF (lC m b);have eY:=Hd c4;rw [c4]at a3⊢;clear cT c4;have fY:=a3.o;go_upto_region 33 with(fail);go_cut [18]from 179 to 187 (λc7 wp=>c7= U2 jy/\xV av m v.mb id b jy wp)
        case first=>
         obtain⟨af,ap⟩:=a' d6.o;obtain⟨K,aW⟩:=a' aY.o.cell;simp only [jw]at K
         go_region_law (first
          |(go_simp;go_at_call 34
            refine(wM _ av.drew b xa xc (dE.o.c' (g' _ _).drew) ek (λt ht=>by obtain⟨e8,a2,fQ,e9⟩:=dM.o t ht;exact⟨e8,a2,UN,e9⟩)).mono ?_;rintro e c9⟨Y,ab,rfl,eg,ep⟩;have cl:Hi (BW av c9):=d' ((Br av).drew) ep;have eL:Hi (i7 (λk=>av.heap.size<=k) c9 b Y ab):=eg;have eE:=aY.o.map.c' cl.o;obtain⟨eH,eA,eF,ez,fX⟩:=Kz eE (by have:=bO.o;omega) ⟨id,b,jy,Y,ab⟩ bw (by show iA m.L id=none;rw [<-bM.o];exact bf.o);have hrun':(Instr.mapUpdate 77 (.map (some v.mb)) (U2 id) (.agg #[b.parent,UZ b.f',b.hJ,b.work,b.e',.slice Y b.hQ.length ab,jy])).run prog c9= .ok () eH:=eA;have eS:Hi (xV av m v.mb id b jy eH):=xV.mk Y ab aY.o.map.lt eF eL.o cl.o ez;obtain⟨K,aW⟩:=a' (aY.o.c' cl.o).cell;simp only [jw]at K;clear eA eF ez eE eg ep))
         all_goals
          go_wp2;go_meet
          case rel=>exact⟨rfl,eS.o⟩
        obtain⟨rfl,Y,ab,eD,ej,b0⟩:=hcut;have cy:=Hd (sub_zero cw.o);have cu:Hi (∀ {l:List Int},iI m.L b++ [iv b]=l->iG (oe m b Y ab).L l=iG m.L j++ [b]):=λe=>by
         rw [<-e,<-ax.o];exact yl ai.o cy.o Y ab
        have df:=Hd (Iy ai.o cy.o dJ.o Y ab);have ea:(⟨m.L++ [(⟨id,b,jy,Y,ab⟩:mB)],m.best,m.final,m.hgt⟩:k7)=oe m b Y ab:=(by unfold oe;rw [bM.o,eY.o]);obtain⟨ar,aA⟩:=aY.o.put ⟨id,b,jy,Y,ab⟩ b0 eD ej bw a3.o;rw [ea]at ar;obtain⟨aL,cR⟩:=iF ((λk=>SB k\/(av.heap.size<=k/\k<wc.heap.size)));have eW:Hi (∀k,aL k->SB k\/av.heap.size<=k):=λk z=>by
         rw [<-cR]at z;rcases z with h1|h1
         ·exact .inl h1
         ·exact .inr h1.1
        rw [cR]at ar aA;obtain⟨ch,a1,cE⟩:=kT ar (dP.o.trans aA) (dX.o.keep (b0.mono λk _ z e=>by
         have h1:=al.o.map.lt;have h2:=bk.o;rcases z.1 with G|G
         ·exact G
         ·omega))
        have e7:Hi (av.heap.size<=wc.heap.size):=b0.size;clear ar aA eD ej b0 ea cR aY dP dX d6 dE;have fT:ak.heap.size<=wc.heap.size:=iu e2.o (iu d7.o e7.o);obtain⟨ag,bt⟩:=iF (j++ [id]);have bH:Hi (iI m.L b++ [iv b]=ag):=Hd (by rw [ax.o,bM.o];exact bt);have bg:Hi (ag.length=j.length+1):=Hd (by rw [<-bt];simp);have eX:Hi (ag.take n=m.best.take n):=Hd (by rw [<-bt,Uq bx];exact ao.o);have eM:=Hd bt;clear bt;go_wp2_with (at_builtin;refine iC (r:=ib) (base:=ak.heap.size) (v:= .slice ba j.length bc) (u:= .slice (some ⟨wc.heap.size,0,none⟩) 1 1) (S:=λ_=>False) rfl _ _ rfl iX rfl rfl (cE.o.c' (hd (g' _ _) (.cells #[id] 24))) (Src.one (r:=ib) (y:=id) ⟨rfl,bw⟩ (jx.new wc [id] 24)) (λ_ _ h=>h.elim) (λ_ _ h=>h) (by unfold maxLen;simp;omega) (by simp;omega) (by rw [U4];omega) ?_)
        intro f5 aV b4 cY fu;rw [eM.o]at b4;obtain⟨bo,bn,rfl, -, -⟩:=iW b4;have cV:=jc wc (.cells #[id] 24);have bz: ∀k,(Value.slice ba j.length bc).ownBlock=some k->ak.heap.size<=k/\k<wd.heap.size:=λk e=>by
         obtain⟨-,h2, -⟩:=cE.o.lt e;rcases h2.1 with G|G
         ·exact G.elim
         ·exact⟨G,h2.2⟩
        have aw:Hi (j5 c aL ah aV r (oe m b Y ab) (iG m.L j++ [b]) { v with pv:=aj }):=(ch.o.c' cV).keep cY
         (λk z e=>by
           obtain⟨h1,h2⟩:=bz k e;rcases eW.o k z with G|G
           ·exact(bL.o k h1 h2).2.2 G
           ·have:=d7.o;omega)
         (λk z e=>by obtain⟨h1,h2⟩:=bz k e;exact(bL.o k h1 h2).2.1 z)
         (λk z e=>by obtain⟨h1,h2⟩:=bz k e;exact(bL.o k h1 h2).1 z)
        have aK:Hi (lq c SB PI v w aL ah { v with pv:=aj } aV):=⟨(a1.o.kept.trans (Kept.of_below cV) λ_ _ h=>h).trans cY (λk z _ e=>by obtain⟨h1,h2⟩:=bz k e;have:=bk.o;omega),a1.o.turn,a1.o.sb,a1.o.M',a1.o.MZ⟩;have cn:Hi (gZ.rel (λk=>ak.heap.size<=k/\ ¬jG c { v with pv:=aj } k) aV [.slice bo ag.length bn] ag):=gZ.mono b4.slice λk _ z=>by
         rcases z with h1|h1
         ·have h2:ak.heap.size<=k:=by
           first
            |exact h1.1
            |(rcases h1.1 with h|h;exact h.elim;exact h)
          exact⟨h2,(bL.o k h2 h1.2).1⟩
         ·have G:wc.heap.size+1<=k:=by first|exact h1|(rw [U4]at h1;exact h1)
          exact⟨UN,λae=>by have:=ch.o.ki k ae;omega⟩
        have dt:Hi (tO m b=if bU=true then (m.best.length:Int)-n else 0):=Hd (by unfold tO;rw [bF.o,ax.o,dI.o]);have ds:Hi (tP m b=if bU=true then (ag.length:Int)-n else 0):=Hd (by unfold tP;rw [bF.o,ax.o,dI.o,bg.o];push_cast;rfl);clear cV bz b4 cY fu ch a1 cE;have fw:n<=ag.length:=by have:=bg.o;omega
        cases bU with
        |false=>
         have bA:=λw=>AS w bo ag.length bn n fw;have bB:=λw=>AS w v.ba m.best.length v.bc n a6;have K: ∀(d:Nat) (os:Array Obj) (i:Nat),(grow (redrawn aV d) os).cell? ⟨c,i,none⟩=(jw r m { v with pv:=aj })[i]? :=g0 aw.o.cell;simp only [jw]at K;go_wp2_with fail;refine hI 10 UQ UQ ?_;simp only [Tr,U6,Ty,Tg]
         repeat (first|go_big_quiet_step (fail)|quiet_step (fail))
         refine lz ?_;intro wg aF;clear K bA bB;have aq:=Hd (aw.o.c' aF);have bi:=Hd (aK.o.trans (lq.below (SB:=aL) (PI:=ah) aF));have fP:=Hd (gZ.c' cn.o aF);rw [<-cu.o bH.o]at aq;have eT:Hi (j6 r (iG (oe m b Y ab).L ag)):=by
          show j6 _ _;rw [cu.o bH.o,<-ax.o];exact Bb ai.o cy.o dJ.o
         clear aF aw aK cn;go_wp2_with fail;refine(En c aL ah wg r aZ.o (oe m b Y ab) ag m.best n { v with pv:=aj } aq.o eT.o df.o.Ef eX.o a6 (by have:=bg.o;omega) UN _ _ _ _ _ aq.o.best (λk z ae=>aq.o.free k ae z) df.o.best).mono ?_;rintro e fJ⟨rfl,cO,c6,ar,aA⟩;obtain⟨ce,cz⟩:=ik ar (bi.o.trans aA);clear ar aA aq bi;go_wp2_with fail;go_ret3;refine .inr ⟨cw.o,by rw [dt.o,ds.o];rfl,Y,ab,aL,cO,{ v with pv:=c6 },?_,cz.o⟩;rw [Ky bF.o];exact ce.o
        |true=>
         have eP:Hi (tO m b=(m.best.length:Int)-n):=dt.o;have eO:Hi (tP m b=(ag.length:Int)-n):=ds.o;have e3:Hi (wrap64 ((ag.length:Int)-(n:Int))=(ag.length:Int)-n):=(by have:=bg.o;show _=_;unfold wrap64;omega);obtain⟨ee,ev⟩:=aw.o.KA ag bo bn cn.o λk z=>z.2;obtain⟨aX,eQ⟩:=ik ee ev;obtain⟨eI,aW⟩:=a' aw.o.cell;have K: ∀(i:Nat),aV.cell? ⟨c,i,none⟩=(jw r m { v with pv:=aj })[i]? :=eI;simp only [jw]at K;clear ee ev eI;go_upto_region 40 with(fail);generalize aV.setCell ⟨c,11,none⟩ (.slice bo ag.length bn)=fG at*;clear K aW;go_wp2_with fail;refine(Fd c _ ah fG r _ _ _ aX.o aZ.o.f0 aZ.o.f1 (by show ag.length<=100000;have:=bg.o;omega)).mono ?_;rintro e f6⟨rfl,ef,ew⟩;obtain⟨eJ,eR⟩:=ik ef ew;clear ef ew aX;go_wp2_with fail;go_ret3;have fh:pk r m b Y ab=wV r ⟨(oe m b Y ab).L,ag,(oe m b Y ab).final,(oe m b Y ab).hgt⟩:=(by rw [IZ bF.o,bH.o];rfl);refine .inr ⟨cw.o,by rw [eP.o,eO.o];exact congrArg (λx=>Ending.returned (.tuple #[UZ ((m.best.length:Int)-n),UZ x,I0])) e3.o,Y,ab,λk=>aL k\/((ak.heap.size<=k/\ ¬jG c { v with pv:=aj } k)/\k<aV.heap.size),ah,{ v with ba:=bo,bc:=bn,pv:=aj },?_,?_⟩
         ·rw [fh,Ix,Ho]
          show j5 _ _ _ _ _ _ (iG (oe m b Y ab).L ag) _;rw [cu.o bH.o];exact eJ.o
         ·refine⟨(aK.o.kept.trans eQ.o λk _ h e=> ?_).trans eR.o λk _ h e=>h (.inl e),aK.o.turn,λk z=> .inl (aK.o.sb k z),λk z=> ?_,aK.o.MZ⟩
          ·exact h (.inl e)
          ·rcases z with h1|h1
           ·exact aK.o.M' k h1
           ·exact .inr (iu bk.o h1.1.1)
end Go.Proofs.YtjdiofjjoefnhaaGreatDoor
