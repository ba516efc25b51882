/- The reference's equality of transactions and blocks. -/
import Derived.Test.YtjdiofjjoefnhaaGreatDoorMSrt
import Derived.Test.YtjdiofjjoefnhaaGreatDoorMLw
set_option maxRecDepth 100000
set_option maxHeartbeats 2000000
namespace Go.Proofs.YtjdiofjjoefnhaaGreatDoor
open Tryz Go.ChangeShapes Go.WideShapes Go.ChangeAt Go.RowKit Go.Sort
theorem wO {S:UO}{w:World}{a:UP}{len cap:Nat}{l:List Int}(h:hD.rel S w [.slice a len cap] l)(k:Nat)(u:k<l.length): ∃b off,a=some ⟨b,off,none⟩/\w.cell? ⟨b,off+k,none⟩=some (.int .u8 l[k]):=by
 obtain⟨b,off,es,rfl, -, -,⟨rfl, -⟩,j⟩:=g4.at h k u;have:=j 0 _ rfl;exact⟨b,off,rfl,by simpa [j9]using this⟩
theorem zr (S S':UO)(w:World)(a b:UP)(la u ca cb:Nat)(l m:List Int)(ab:l.length=la)(ad:m.length=u)(h:hD.rel S w [.slice a la ca] l)(ak:hD.rel S' w [.slice b u cb] m)(az:la<=100000000):
 Calls prog 148 #[.slice a la ca,.slice b u cb] w (Rt w (.bool (decide (l=m)))):=by
 obtain⟨H,ap,G,Y⟩:=oX h ak ab ad;clear h ak;by_cases ae:la=u
 ·have ag:((la:Int)==(u:Int))=true:=by rw [iO];omega
  have ah:((la:Int) != (u:Int))=false:=(by rw [jt];omega);have U:=Hd ae;clear ab ad ae;go_wp2;go_loopw [5] (λaf wr=> ∃k:Nat,k<=la/\af= UZ k/\Hi (uw l m k)/\BW w wr) (λaf _=>la-(intOf af).toNat)
  case atStart=>exact⟨0,iy _,rfl,λj h=>absurd h (pf _),g' _ _⟩
  case round=>
   obtain⟨k,ax,rfl,ao,V⟩:=hrel;by_cases hlt:k<la
   ·obtain⟨av,o1,rfl,c1⟩:=wO (hD.c' H.o V) k (by have:=G.o;omega)
    obtain⟨b2,o2,rfl,c2⟩:=wO (hD.c' ap.o V) k (by have:=Y.o;have:=U.o;omega);have ai:Hi (l.getD k 0=l[k]'(by have:=G.o;omega)):=q0 l 0 k _;have aj:Hi (m.getD k 0=m[k]'(by have:=Y.o;have:=U.o;omega)):=q0 m 0 k _;generalize l[k]'(by have:=G.o;omega)=x at*
    generalize m[k]'(by have:=Y.o;have:=U.o;omega)=y at*
    have ar:=hW c1;have au:=hW c2;have ay:k<u:=(by have:=U.o;omega);have aA:(0:Int)<=(k:Int):=UN;have aC:(k:Int)<(la:Int):=UN;have aD:(k:Int)<(u:Int):=UN;clear c1 c2;go_wp2;refine m6 ?_
    repeat (first|go_big_quiet_step (fail)|quiet_step (fail))
    refine lz ?_;intro wq al;clear ar au;by_cases z:x=y
    ·have ag:(x==y)=true:=by simpa using z
     have ah:(x != y)=false:=(by simpa using z);have aq:Hi (uw l m (k+1)):=λj aw=>by
      rcases kZ j k with h|h
      ·exact ao.o j h
      ·obtain rfl:j=k:=UN
       rw [ai.o,aj.o,z]
     clear z;go_wp2;go_roundw
     case rel=>exact⟨k+1,UN,by go_num,aq,d' V al⟩
     case measure=>exact UY
    ·have ag:(x==y)=false:=by simpa using z
     have ah:(x != y)=true:=(by simpa using z);have K:Hi (decide (l=m)=false):=iH λe=>z (by rw [<-ai.o,<-aj.o,e]);clear z;go_wp2;go_ret;exact⟨g8 K.o.symm,d' V al⟩
   ·obtain rfl:k=la:=UN
    have K:Hi (decide (l=m)=true):=iP (CB (by have:=G.o;have:=Y.o;have:=U.o;omega) (by rw [G.o];exact ao.o));go_wp2;go_ret;exact⟨g8 K.o.symm,V⟩
 ·have ag:((la:Int)==(u:Int))=false:=by rw [je];omega
  have ah:((la:Int) != (u:Int))=true:=(by rw [iB];omega);have K:Hi (decide (l=m)=false):=iH λe=>ae (by rw [<-ab,<-ad,e]);clear ab ad ae;go_wp2;go_ret;exact⟨g8 K.o.symm,g' _ _⟩
theorem FU {S:UO}{w:World}{t:jO}{ma oa pa:UP}{mc oc pc:Nat}(h:ks S w t ma oa pa mc oc pc):Nb t:=by
 refine⟨h.g5,λx u=> ?_,λo G=> ?_,h.iK,h.wd,h.jn,h.acc,h.e'⟩
 ·have:=F7 h.marks x u
  exact ir this.1 this.2
 ·obtain⟨j,z,rfl⟩:=TH G
  obtain⟨b,off,ca,cc, -, -, -,k1,K,U,y, -⟩:=mp h.outs j z;exact⟨k1,K,U,λx u=>by have:=F7 y x u;exact ir this.1 this.2⟩
structure w9 (t:jO):Prop where
 m:t.marks.length<=1000
 o:t.outs.length<=1000
 c: ∀o∈t.outs,o.ha.length<=1000
 p:t.proof.length<=2000000
theorem JF {t:jO}(h:w9 t):(zk t).length<=20000000:=by
 have h1:=tv t.outs h.c;have h2:=h.m;have j:=h.o;have u:=h.p;unfold zk encS;simp only [U3,hA,kC,jV];simp;omega
theorem JG {t t':jO}(ok:Nb t)(j:Nb t')(h:w9 t)(u:w9 t')(G:t.outs.length=t'.outs.length)(z:t.exp=t'.exp)(y: ∀i (hi:i<t.outs.length) (Y:i<t'.outs.length),t.outs[i].ha.length=t'.outs[i].ha.length)(K:zk t=zk t'):t=t':=by
 have h1:=h.m;have h2:=u.m;have U:=h.p;have V:=u.p
 have:=JE (t:=⟨t.g5,t.marks,t.outs,t.iK,t.wd,t.jn,t.acc,t.e',nx t.exp,t.proof⟩) (t':=⟨t'.g5,t'.marks,t'.outs,t'.iK,t'.wd,t'.jn,t'.acc,t'.e',nx t'.exp,t'.proof⟩)
  ⟨ok.g5,ok.marks,ok.outs,ok.iK,ok.wd,ok.jn,ok.acc,ok.e'⟩ ⟨j.g5,j.marks,j.outs,j.iK,j.wd,j.jn,j.acc,j.e'⟩
  (by show t.marks.length<=_;omega) (by show t'.marks.length<=_;omega) (by show t.proof.length<=_;omega) (by show t'.proof.length<=_;omega) G (by show nx t.exp=nx t'.exp;rw [z]) y K
 simp only [jO.mk.injEq]at this
 cases t;cases t'
 simp_all
theorem w9.of {t:jO}(h:ou t=true):w9 t:=by
 obtain⟨h1,h2,y,j⟩:=Ac h;exact⟨UN,UN,λo u=>by have:=j o u;omega,UN⟩
def MO (t t':jO)(w:World)(e:Ending)(w':World):Prop:= ∃b:Bool,e= .returned (.bool b)/\(b=true↔t=t')/\BW w w'
theorem EF (S S':UO)(w:World)(t t':jO)(ma oa pa ma' V ab:UP)(mc oc pc U Y ad:Nat)(h:ks S w t ma oa pa mc oc pc)(ax:ks S' w t' ma' V ab U Y ad)(az:w9 t)(aA:w9 t'):
 Calls prog 97 #[.agg (jQ t ma mc oa oc pa pc),.agg (jQ t' ma' U V Y ab ad)] w (MO t t' w):=by
 have aq:=hd (jc w (.cells (jQ t ma mc oa oc pa pc) 87)) (.cells (jQ t' ma' U V Y ab ad) 87);have aj:=Hd (ji w (.cells (jQ t ma mc oa oc pa pc) 87) (.cells (jQ t' ma' U V Y ab ad) 87));obtain⟨a1,a2,H,aG,ap,ae,ai⟩:=OT (FU h) (FU ax) (h.c' aq) (ax.c' aq) aq az aA;have bn:=az.o;have bo:=aA.o;clear aq h ax az aA;go_in;go_upto_region 1 with(fail);generalize (w.alloc (.cells (jQ t ma mc oa oc pa pc) 87)).alloc (.cells (jQ t' ma' U V Y ab ad) 87)=W at*;obtain⟨aF,ay⟩:=iF (w.heap.size);have bi:=Hd ay;rw [ay]at aj⊢;clear ay;obtain⟨al,aD⟩:=a' aj.o.2;obtain⟨ao,aE⟩:=a' aj.o.1;by_cases p1:t.outs.length=t'.outs.length;rotate_left
 ·have au:((t.outs.length:Int) != (t'.outs.length:Int))=true:=by rw [iB];omega
  have av:((t.outs.length:Int)==(t'.outs.length:Int))=false:=(by rw [je];omega);have ah:Hi (t≠t'):=λe=>p1 (by rw [e]);clear p1;go_wp2;go_ret;exact⟨_,rfl,⟨λh=>by simp at h,λh=>absurd h ah.o⟩,ap.o⟩
 have au:((t.outs.length:Int) != (t'.outs.length:Int))=false:=by rw [jt];omega
 have av:((t.outs.length:Int)==(t'.outs.length:Int))=true:=by rw [iO];omega
 by_cases z:t.exp=t'.exp;rotate_left
 ·have aP:(t.exp != t'.exp)=true:=by rw [iB];exact z
  have aQ:(t.exp==t'.exp)=false:=(by rw [je];exact z);have ah:Hi (t≠t'):=λe=>z (by rw [e]);clear p1 z;go_wp2;go_ret;exact⟨_,rfl,⟨λh=>by simp at h,λh=>absurd h ah.o⟩,ap.o⟩
 have aP:(t.exp != t'.exp)=false:=by rw [jt];exact z
 have aQ:(t.exp==t'.exp)=true:=by rw [iO];exact z
 obtain⟨aJ,a3⟩:=ik p1 z;clear p1 z;go_wp2_with fail;clear al aD ao aE au av aP aQ;go_loopw [5] (λaC wr=> ∃i:Nat,i<=t.outs.length/\aC= UZ i/\Hi (∀j (K:j<t.outs.length) (ag:j<t'.outs.length),j<i->t.outs[j].ha.length=t'.outs[j].ha.length)/\BW W wr) (λaC _=>t.outs.length-(intOf aC).toNat)
 case atStart=>exact⟨0,iy _,rfl,λj _ _ h=>absurd h (pf _),g' _ _⟩
 case round=>
  obtain⟨i,hi,rfl,HC,y⟩:=hrel;obtain⟨G,af⟩:=ik (b' y aj.o.2) (b' y aj.o.1);by_cases hlt:i<t.outs.length
  ·have bg:i<t'.outs.length:=by have:=aJ.o;omega
   obtain⟨bj,o1,ca,cc,rfl, -, -, -, -, -, -, -, -, -,aN⟩:=mp (mK.c' H.o.outs y) i hlt;obtain⟨b2,o2,bk,bm,rfl, -, -, -, -, -, -, -, -, -,aO⟩:=mp (mK.c' aG.o.outs y) i bg;have aZ:Hi (t.outs[i].ha.length≠t'.outs[i].ha.length->t≠t'):=λh e=>h (by subst e;rfl);have a0:Hi (t.outs[i].ha.length=t'.outs[i].ha.length-> ∀j (K:j<t.outs.length) (ag:j<t'.outs.length),j<i+1->t.outs[j].ha.length=t'.outs[j].ha.length):=λh j K ag bp=>by
    by_cases e:j=i
    ·subst e;exact h
    ·exact HC.o j K ag UN
   generalize t.outs[i]=u at*;generalize t'.outs[i]=ak at*;have c0:=hW aN;have c1:=hW aO;have al:=g0 G.o;have ao:=g0 af.o;have bq:(0:Int)<=(i:Int):=UN;have br:(i:Int)<(t.outs.length:Int):=UN;have bt:(i:Int)<(t'.outs.length:Int):=UN;obtain⟨v0,v1⟩:=a' G.o;clear aN aO HC;go_upto_region 6 with(fail);clear v0 v1;go_wp2;refine m6 ?_
   repeat (first|go_big_quiet_step (fail)|quiet_step (fail))
   refine lz ?_;intro bz aK;clear al ao c0 c1;by_cases ar:u.ha.length=ak.ha.length
   ·have au:((u.ha.length:Int) != (ak.ha.length:Int))=false:=by rw [jt];omega
    have av:((u.ha.length:Int)==(ak.ha.length:Int))=true:=(by rw [iO];omega);have aW:=Hd (a0.o ar);clear ar;go_wp2;go_roundw
    case rel=>exact⟨i+1,UN,by go_num,aW,d' y aK⟩
    case measure=>exact UY
   ·have au:((u.ha.length:Int) != (ak.ha.length:Int))=true:=by rw [iB];omega
    have av:((u.ha.length:Int)==(ak.ha.length:Int))=false:=(by rw [je];omega);have ah:=Hd (aZ.o ar);clear ar;go_wp2;go_ret;exact⟨_,rfl,⟨λh=>by simp at h,λh=>absurd h ah.o⟩,d' ap.o (d' y aK)⟩
  ·obtain rfl:i=t.outs.length:=UN
   obtain⟨aT,aU⟩:=ik (H.o.c' y) (aG.o.c' y);have aX:Hi (∀j (K:j<t.outs.length) (ag:j<t'.outs.length),t.outs[j].ha.length=t'.outs[j].ha.length):=λj K ag=>HC.o j K ag K;obtain⟨aV,aY⟩:=ik y (JF ae.o);obtain⟨al,aD⟩:=a' G.o;obtain⟨ao,aE⟩:=a' af.o;clear y HC;go_upto_region 8 with(fail);clear al aD ao aE
   go_region_held3 (λw'=>BW wr w'/\(∀o,w'.cell? ⟨aF,o,none⟩=((jQ t ma mc oa oc pa pc):Array Value)[o]?)/\(∀o,w'.cell? ⟨aF+1,o,none⟩=((jQ t' ma' U V Y ab ad):Array Value)[o]?))
    (first
      |with_reducible exact kb.drew (kb.of G.o af.o (g' _ _))
      |with_reducible exact aw.o
      |with_reducible exact aH.o
      |with_reducible exact aI.o)
    (first
      |(go_at_call 100;refine(rM _ _ t' ma' V ab U Y ad (aU.o.c' aw.o.1) ai.o.m ai.o.o ai.o.c ai.o.p).mono ?_;rintro e bw⟨a8,bb,rfl,aM,hb5⟩
        obtain⟨a6,a5,aH⟩:=kT aM (hD.c' a4.o hb5) (kb.of G.o af.o (d' aw.o.1 hb5));clear aM)
      |(go_at_call 100;refine(rM _ _ t ma oa pa mc oc pc (aT.o.c' (‹BW wr _/\_›).1) ae.o.m ae.o.o ae.o.c ae.o.p).mono ?_;rintro e bv⟨a7,a9,rfl,aL,be⟩
        have a4:=Hd aL;have aw:=Hd (kb.of G.o af.o (d' (‹BW wr _/\_›).1 be));clear aL)
      |(go_at_call 148;refine UR (zr _ _ _ a7 a8 _ _ a9 bb _ _ rfl rfl a5.o a6.o (by have:=aY.o;omega)) λbx bf=> ?_
        have aI:=Hd (kb.of G.o af.o (d' aH.o.1 bf))))
   go_wp2;go_ret;refine⟨_,rfl,?_,d' ap.o (d' aV.o aI.o.1)⟩;rw [jk];exact⟨λbh=>JG a1.o a2.o ae.o ai.o aJ.o a3.o aX.o bh,λe=>by rw [e]⟩
def Pf (a b:og):Bool:=a.g6==b.g6&&(a.p0==b.p0&&(a.p1==b.p1&&a.ha==b.ha))
theorem KU (a b:og):Pf a b=true↔a=b:=by
 cases a;cases b
 simp [Pf]
def Ee:List og->List og->Bool
 | [],[]=>true
 |a::l,b::m=>Pf a b&&Ee l m
 |_,_=>false
theorem C6: ∀(l m:List og),Ee l m=true↔l=m
 | [],[]=>by simp [Ee]
 | [],_::_=>by simp [Ee]
 |_::_,[]=>by simp [Ee]
 |a::l,b::m=>by simp [Ee,KU,C6 l m]
def L8 (t t':jO):Bool:=t.g5==t'.g5&&(t.marks==t'.marks&&(Ee t.outs t'.outs&&(t.iK==t'.iK&&(t.wd==t'.wd&&(t.jn==t'.jn&&(t.acc==t'.acc&&(t.e'==t'.e'&&(t.exp==t'.exp&&t.proof==t'.proof))))))))
theorem uy (t t':jO):L8 t t'=true↔t=t':=by
 cases t;cases t'
 simp [L8,C6]
theorem GH (S S':UO)(w:World)(t t':jO)(ma oa pa ma' u z:UP)(mc oc pc j y G:Nat)(h:ks S w t ma oa pa mc oc pc)(V:ks S' w t' ma' u z j y G)(ae:w9 t)(af:w9 t'):
 Calls prog 97 #[.agg (jQ t ma mc oa oc pa pc),.agg (jQ t' ma' j u y z G)] w (Rt w (.bool (L8 t t'))):=
 (EF S S' w t t' ma oa pa ma' u z mc oc pc j y G h V ae af).mono λe w' ⟨b,ad,K,ab⟩=>by
   refine⟨?_,ab⟩;have:b=L8 t t':=by
    cases U:L8 t t' with
    |true=>exact K.2 ((uy t t').1 U)
    |false=>
     cases Y:b with
     |false=>rfl
     |true=>
      have:=(uy t t').2 (K.1 Y);rw [U]at this;simp at this
   rw [ad,this]
def Ed:List jO->List jO->Bool
 | [],[]=>true
 |a::l,b::m=>L8 a b&&Ed l m
 |_,_=>false
theorem C5: ∀(l m:List jO),Ed l m=true↔l=m
 | [],[]=>by simp [Ed]
 | [],_::_=>by simp [Ed]
 |_::_,[]=>by simp [Ed]
 |a::l,b::m=>by simp [Ed,uy,C5 l m]
def Fz (b j:hV):Bool:=b.parent==j.parent&&(b.f'==j.f'&&(b.hJ==j.hJ&&(b.work==j.work&&(b.e'==j.e'&&Ed b.hQ j.hQ))))
theorem Bk (b j:hV):Fz b j=true↔b=j:=by
 cases b;cases j
 simp [Fz,C5]
theorem tX {b j:hV}(h:b≠j):Fz b j=false:=by
 cases u:Fz b j with
 |false=>rfl
 |true=>exact absurd ((Bk b j).1 u) h
theorem Dl (S S':UO)(w:World)(b u:hV)(xa ad:UP)(xc ae:Nat)(h:i7 S w b xa xc)(aM:i7 S' w u ad ae)(aP: ∀t∈b.hQ,w9 t)(aQ: ∀t∈u.hQ,w9 t)(bV:b.hQ.length<=1000):
 Calls prog 61 #[.agg (jI b xa xc),.agg (jI u ad ae)] w (Rt w (.bool (Fz b u))):=by
 have af:=hd (jc w (.cells (jI b xa xc) 44)) (.cells (jI u ad ae) 44);have Y:=Hd (ji w (.cells (jI b xa xc) 44) (.cells (jI u ad ae) 44));obtain⟨H,a3,z,a5,a6⟩:=zL (h.c' af) (aM.c' af) af aP aQ;clear af h aM aP aQ;go_in;go_upto_region 1 with(fail);generalize (w.alloc (.cells (jI b xa xc) 44)).alloc (.cells (jI u ad ae) 44)=W at*;obtain⟨bR,ah⟩:=iF (w.heap.size);have bS:=Hd ah;rw [ah]at Y⊢;clear ah;obtain⟨ao,bP⟩:=a' Y.o.2;obtain⟨ap,bQ⟩:=a' Y.o.1;by_cases p0:b.parent=u.parent;rotate_left
 ·have aX:(b.parent != u.parent)=true:=by rw [iB];exact p0
  have v0:(b.parent==u.parent)=false:=(by rw [je];exact p0);have y:Hi (Fz b u=false):=tX λe=>p0 (by rw [e]);clear p0;go_wp2;go_ret;exact⟨by rw [y.o];rfl,z.o⟩
 have aX:(b.parent != u.parent)=false:=by rw [jt];exact p0
 have v0:(b.parent==u.parent)=true:=by rw [iO];exact p0
 have be:=Hd p0;clear p0;by_cases p1:b.f'=u.f';rotate_left
 ·have aY:(b.f' != u.f')=true:=by rw [iB];exact p1
  have v1:(b.f'==u.f')=false:=(by rw [je];exact p1);have y:Hi (Fz b u=false):=tX λe=>p1 (by rw [e]);clear p1;go_wp2;go_ret;exact⟨by rw [y.o];rfl,z.o⟩
 have aY:(b.f' != u.f')=false:=by rw [jt];exact p1
 have v1:(b.f'==u.f')=true:=by rw [iO];exact p1
 have bf:=Hd p1;clear p1;by_cases G:b.hJ=u.hJ;rotate_left
 ·have aZ:(b.hJ != u.hJ)=true:=by rw [iB];exact G
  have v2:(b.hJ==u.hJ)=false:=(by rw [je];exact G);have y:Hi (Fz b u=false):=tX λe=>G (by rw [e]);clear G;go_wp2;go_ret;exact⟨by rw [y.o];rfl,z.o⟩
 have aZ:(b.hJ != u.hJ)=false:=by rw [jt];exact G
 have v2:(b.hJ==u.hJ)=true:=by rw [iO];exact G
 have bg:=Hd G;clear G;by_cases K:b.work=u.work;rotate_left
 ·have a0:(b.work != u.work)=true:=by rw [iB];exact K
  have aU:(b.work==u.work)=false:=(by rw [je];exact K);have y:Hi (Fz b u=false):=tX λe=>K (by rw [e]);clear K;go_wp2;go_ret;exact⟨by rw [y.o];rfl,z.o⟩
 have a0:(b.work != u.work)=false:=by rw [jt];exact K
 have aU:(b.work==u.work)=true:=by rw [iO];exact K
 have bh:=Hd K;clear K;by_cases U:b.e'=u.e';rotate_left
 ·have a1:(b.e' != u.e')=true:=by rw [iB];exact U
  have aV:(b.e'==u.e')=false:=(by rw [je];exact U);have y:Hi (Fz b u=false):=tX λe=>U (by rw [e]);clear U;go_wp2;go_ret;exact⟨by rw [y.o];rfl,z.o⟩
 have a1:(b.e' != u.e')=false:=by rw [jt];exact U
 have aV:(b.e'==u.e')=true:=by rw [iO];exact U
 have bi:=Hd U;clear U;by_cases ag:b.hQ.length=u.hQ.length;rotate_left
 ·have a2:((b.hQ.length:Int) != (u.hQ.length:Int))=true:=by rw [iB];omega
  have aW:((b.hQ.length:Int)==(u.hQ.length:Int))=false:=(by rw [je];omega);have y:Hi (Fz b u=false):=tX λe=>ag (by rw [e]);clear ag;go_wp2;go_ret;exact⟨by rw [y.o];rfl,z.o⟩
 have a2:((b.hQ.length:Int) != (u.hQ.length:Int))=false:=by rw [jt];omega
 have aW:((b.hQ.length:Int)==(u.hQ.length:Int))=true:=by rw [iO];omega
 have aq:=Hd ag;clear ag;go_wp2_with fail;clear ao bP ap bQ aX aY aZ a0 a1 a2 v0 v1 v2 aU aV aW;go_loopw [5] (λal wr=> ∃i:Nat,i<=b.hQ.length/\al= UZ i/\Hi (∀j (aj:j<b.hQ.length) (ak:j<u.hQ.length),j<i->b.hQ[j]=u.hQ[j])/\BW W wr) (λal _=>b.hQ.length-(intOf al).toNat)
 case atStart=>exact⟨0,iy _,rfl,λj _ _ h=>absurd h (pf _),g' _ _⟩
 case round=>
  obtain⟨i,hi,rfl,HC,V⟩:=hrel;obtain⟨ar,bm⟩:=ik (b' V Y.o.2) (b' V Y.o.1);obtain⟨v0,v1⟩:=a' ar.o;by_cases hlt:i<b.hQ.length
  ·have aO:i<u.hQ.length:=by have:=aq.o;omega
   obtain⟨bT,o1,ma,oa,pa,mc,oc,pc,rfl, -,ht,c0,c1,c2,au,av,aw,ax,ay,az,aA⟩:=oq (my.c' H.o.hQ V) i hlt;obtain⟨b2,o2,ma',bL,bN,bK,bM,bO,rfl, -,aT,aC,aD,aE,aF,aG,aH,aI,aJ,aK,aL⟩:=oq (my.c' a3.o.hQ V) i aO;obtain⟨a7,a8⟩:=ik (a5.o _ (z3 hlt)) (a6.o _ (z3 aO));have a9:Hi (b.hQ[i]≠u.hQ[i]->b≠u):=λh e=>h (by subst e;rfl);have bb:Hi (b.hQ[i]=u.hQ[i]-> ∀j (aj:j<b.hQ.length) (ak:j<u.hQ.length),j<i+1->b.hQ[j]=u.hQ[j]):=λh j aj ak bU=>by
    by_cases e:j=i
    ·subst e;exact h
    ·exact HC.o j aj ak UN
   generalize b.hQ[i]=t at*;generalize u.hQ[i]=t' at*;obtain⟨bj,bk⟩:=ik ht aT;go_upto_region 6 with(fail);clear v0 v1;have ai: ∀(d:Nat) (os:Array Obj),_:=λd os=>GH _ _ (grow (redrawn wr d) os) t t' ma oa pa ma' bL bN mc oc pc bK bM bO (bj.o.c' (lm wr d os)) (bk.o.c' (lm wr d os)) a7.o a8.o;have ao:=g0 ar.o;have ap:=g0 bm.o;have bn:=hW c0;have bA:=hW aC;have bo:=hW c1;have bB:=hW aD;have bp:=hW c2;have bC:=hW aE;have bq:=hW au;have bD:=hW aF;have br:=hW av;have bE:=hW aG;have bt:=hW aw;have bF:=hW aH;have bv:=hW ax;have bG:=hW aI;have bw:=hW ay;have bH:=hW aJ;have bx:=hW az;have bI:=hW aK;have bz:=hW aA;have bJ:=hW aL;have bX:(0:Int)<=(i:Int):=UN;have bY:(i:Int)<(b.hQ.length:Int):=UN;have bZ:(i:Int)<(u.hQ.length:Int):=UN;clear ht aT c0 c1 c2 au av aw ax ay az aA aC aD aE aF aG aH aI aJ aK aL HC;go_wp2;refine m6 ?_
   repeat (first|go_big_quiet_step (exact ie (ai _ _))|quiet_step (exact ie (ai _ _)))
   refine lz ?_;intro b5 aN;clear ao ap ai bn bA bo bB bp bC bq bD br bE bt bF bv bG bw bH bx bI bz bJ
   cases ab:L8 t t' with
   |true=>
    have a4:=Hd (bb.o ((uy t t').1 ab));clear ab;go_wp2;go_roundw
    case rel=>exact⟨i+1,UN,by go_num,a4,d' V aN⟩
    case measure=>exact UY
   |false=>
    have y:Hi (Fz b u=false):=tX (a9.o λe=>by rw [(uy t t').2 e]at ab;simp at ab);clear ab;go_wp2;go_ret;exact⟨by rw [y.o];rfl,d' z.o (d' V aN)⟩
  ·obtain rfl:i=b.hQ.length:=UN
   have y:Hi (Fz b u=true):=(Bk b u).2 (by
    have bW:b.hQ=u.hQ:=Um aq.o λj h1 h2=>HC.o j h1 h2 h1;have b0:=be.o;have q1:=bf.o;have q2:=bg.o;have b1:=bh.o;have b4:=bi.o
    cases b;cases u
    simp_all)
   go_wp2;go_ret;exact⟨by rw [y.o];rfl,d' z.o V⟩
end Go.Proofs.YtjdiofjjoefnhaaGreatDoor
