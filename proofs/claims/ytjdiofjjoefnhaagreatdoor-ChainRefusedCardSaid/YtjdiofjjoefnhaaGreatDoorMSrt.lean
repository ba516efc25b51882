/- slices.Sort of at most twelve numbers. -/
import Derived.Test.YtjdiofjjoefnhaaGreatDoorMMk
set_option maxRecDepth 100000
set_option maxHeartbeats 4000000
namespace Go.Proofs.YtjdiofjjoefnhaaGreatDoor
open Tryz Go.ChangeShapes Go.WideShapes Go.ChangeAt Go.RowKit Go.Sort
theorem swap_perm: ∀(l:List Int) (j:Nat) (h:j+1<l.length),((l.set (j+1) (l[j]' UN)).set j (l[j+1]'h)).Perm l
 | [],j,h=>by simp at h
 | [x],j,h=>by simp at h
 |x::y::B,0,_=>List.Perm.swap x y B
 |a::b::l,j+1,h=>by
  have:=swap_perm (b::l) j (by simpa using h);exact this.cons a
def oM (L:List Int)(n:Nat):Prop:= ∀p q,p<q->q<n->L.getD p 0<=L.getD q 0
def Ic (L:List Int)(i j:Nat):Prop:=(∀p q,p<q->q<i+1->p≠j->q≠j->L.getD p 0<=L.getD q 0)/\ ∀q,j<q->q<i+1->L.getD j 0<=L.getD q 0
theorem Fb {L:List Int}{i:Nat}(h:oM L i):Ic L i i:=⟨λp q h1 h2 _ j=>h p q h1 UN,λq h1 h2=>UN⟩
theorem Hc {L:List Int}{i j:Nat}(h:Ic L i j)(u:j=0\/L.getD (j-1) 0<=L.getD j 0):oM L (i+1):=λp q h1 h2=>by
 by_cases y:p=j
 ·subst y;exact h.2 q h1 h2
 ·by_cases z:q=j
  ·subst z
   rcases u with u|u
   ·omega
   ·by_cases G:p=q-1
    ·rw [G];exact u
    ·exact zQ (h.1 p (q-1) UN UN y UN) u
  ·exact h.1 p q h1 h2 y z
def xC (L:List Int)(j:Nat):List Int:=(L.set (j+1) (L.getD j 0)).set j (L.getD (j+1) 0)
theorem IX (L:List Int)(j:Nat)(h:j+1<L.length)(q:Nat):(xC L j).getD q 0=if q=j then L.getD (j+1) 0 else if q=j+1 then L.getD j 0 else L.getD q 0:=by
 unfold xC;rw [U5,TR,TR];by_cases h1:q=j
 ·subst h1
  simp;rw [g7 UN];simp
 ·by_cases h2:q=j+1
  ·subst h2
   simp [h]
  ·rw [g3 (nB h1),g3 (nB h2),g3 h1,g3 h2,<-U5]
theorem Ez (L:List Int)(j:Nat)(h:j+1<L.length):(xC L j).Perm L:=by
 have h1:=swap_perm L j h;unfold xC;rw [U5,z2 UN,U5,z2 h];exact h1
theorem Hb {L:List Int}{i j:Nat}(hi:i<L.length)(U:j+1<=i)(h:Ic L i (j+1))(hlt:L.getD (j+1) 0<L.getD j 0):Ic (xC L j) i j:=by
 have y:=IX L j UN;refine⟨λp q h1 h2 G K=> ?_,λq h1 h2=> ?_⟩
 ·rw [y p,y q,g3 G,g3 K]
  by_cases u:q=j+1
  ·rw [g7 u,g3 UN]
   exact h.1 p j UN UN UN UN
  ·rw [g3 u]
   by_cases z:p=j+1
   ·rw [g7 z];exact h.1 j q UN h2 UN UN
   ·rw [g3 z];exact h.1 p q h1 h2 z u
 ·rw [y j,y q,g7 rfl,g3 UN]
  by_cases u:q=j+1
  ·rw [g7 u];omega
  ·rw [g3 u];exact h.2 q UN h2
theorem Di {L:List Int}(h:oM L L.length):L.Pairwise (· <= ·):=by
 rw [TP];intro p q u j y;have:=h p q y j;rwa [U5,z2 u,U5,z2 j]at this
theorem Iu {B:Nat}{e:TypeId}{F:UO}{w:World}{v:Value}{L:List Int}(h:Own ib B e F w v L)(k:Nat)(j:k<L.length):(Lit.int .u64 L[k]).wf=true:=by
 obtain⟨S,css, -, -,u,hr, -⟩:=h;exact(hr k (css[k]' UN) L[k] (z2 _) (z2 _)).2
theorem Own.swap {B:Nat}{e:TypeId}{F:UO}{w:World}{v:Value}{L:List Int}(h:Own ib B e F w v L)(k:Nat)(u:k+1<L.length):
 ∃g cap,v= .slice (some ⟨g,0,none⟩) L.length cap/\w.cell? ⟨g,k+1,none⟩=some (U2 (L.getD (k+1) 0))/\w.cell? ⟨g,k,none⟩=some (U2 (L.getD k 0))/\w.frozen? ⟨g,k+1,none⟩=false/\w.frozen? ⟨g,k,none⟩=false/\(w.setCell ⟨g,k+1,none⟩ (U2 (L.getD k 0))).cell? ⟨g,k,none⟩=some (U2 (L.getD k 0))/\(w.setCell ⟨g,k+1,none⟩ (U2 (L.getD k 0))).frozen? ⟨g,k,none⟩=false/\
  Own ib B e F ((w.setCell ⟨g,k+1,none⟩ (U2 (L.getD k 0))).setCell ⟨g,k,none⟩ (U2 (L.getD (k+1) 0))) v (xC L k)/\Kept (λj=>j≠g) w ((w.setCell ⟨g,k+1,none⟩ (U2 (L.getD k 0))).setCell ⟨g,k,none⟩ (U2 (L.getD (k+1) 0))):=by
 have Y:L.getD (k+1) 0=L[k+1]:=by rw [U5,z2 u];rfl
 have ab:L.getD k 0=L[k]:=by rw [U5,z2 UN];rfl
 obtain⟨g,cap,y, -, -, -, -,c1,f1,s1⟩:=h.pP (k+1) u;obtain⟨U,ak,z, -, -, -, -,c2,af, -⟩:=h.pP k UN;have ad:U=g:=by
  rw [y]at z;simp only [mJ,pd,qd]at z;exact z.1.1.symm
 subst ad;have ai:(Lit.int .u64 L[k]).wf=true:=Iu h k UN;have aj:(Lit.int .u64 L[k+1]).wf=true:=Iu h (k+1) u;obtain⟨o1,k1⟩:=s1 L[k] ai;obtain⟨V,al,G, -, -, -, -,K,ag,s3⟩:=o1.pP k (by rw [TG];omega);have ae:V=U:=by
  rw [y]at G;simp only [mJ,pd,qd]at G;exact G.1.1.symm
 subst ae;obtain⟨o2,ah⟩:=s3 L[k+1] aj;rw [List.getElem_set_ne UN]at K;rw [Y,ab];refine⟨V,cap,y,c1,c2,f1,af,K,ag,?_,k1.trans ah λ_ _ h=>h⟩;unfold xC;rw [Y,ab];exact o2
theorem KK (w:World)(x:Int):Calls prog 289 #[x] w (Rt w (.bool false)):=by
 go_wp2;go_ret;exact⟨rfl,g' _ _⟩
theorem CW (w:World)(x y:Int):Calls prog 212 #[x,y] w (Rt w (.bool (decide (x<y)))):=by
 go_in;go_wp2_with fail;refine UR (KK w x) λw1 hb1=> ?_;go_wp2;go_ret;exact⟨rfl,hb1⟩
def xI (L:List Int)(j:Nat):Bool:=decide (0<j/\L.getD j 0<L.getD (j-1) 0)
theorem zC (B:Nat)(F:UO)(w:World)(a:UP)(cap:Nat)(l:List Int)(aW:l.length<=1000)(h:Own ib B 24 F w (.slice a l.length cap) l)(n:Nat)(aj:l.length=n):
 Calls prog 206 #[.slice a n cap,I0,UZ n] w λe w'=>e= .returned (.tuple #[])/\ ∃L,L.Perm l/\oM L L.length/\Own ib B 24 F w' (.slice a n cap) L/\Kept (λk=>(Value.slice a n cap).ownBlock≠some k) w w':=by
 rw [aj]at h;obtain⟨aG,aq⟩:=ik h aj;have bj:n<=1000:=UN
 clear h aj aW;go_wp2;go_loopw [6] (λak wr=> ∃(i:Nat) (L:List Int),ak= UZ i/\1<=i/\i<=n+1/\Hi (L.Perm l)/\Hi (oM L i)/\Hi (Own ib B 24 F wr (.slice a n cap) L)/\Hi (Kept (λk=>(Value.slice a n cap).ownBlock≠some k) w wr)) (λak _=>n+1-(intOf ak).toNat)
 case atStart=>exact⟨1,l,rfl,UN,UN,List.Perm.refl _,(λp q h1 h2=>UN),aG,Kept.refl _ _⟩
 case round=>
  obtain⟨i,L,rfl,bg,bh,z,af,u,G⟩:=hrel;by_cases hlt:i<n
  ·go_wp2_with fail
   obtain⟨bk,aY⟩: ∃x,x=wr:=⟨_,rfl⟩;subst aY;go_loopw [7] (λal wr=> ∃(j:Nat) (L:List Int),al= UZ j/\j<=i/\Hi (L.Perm l)/\Hi (Ic L i j)/\Hi (Own ib B 24 F wr (.slice a n cap) L)/\Hi (Kept (λk=>(Value.slice a n cap).ownBlock≠some k) w wr)) (λal _=>(intOf al).toNat)
   case atStart=>exact⟨i,L,rfl,g9 _,z,Fb af.o,u,G⟩
   case round=>
    clear z af u G;obtain⟨j,L,rfl,bi,z,ao,u,G⟩:=hrel;have aQ:L.length=n:=z.o.length_eq.trans aq.o;go_upto_region 4 with(fail);go_cut [30]from 16 to 30 (λaZ wc=>aZ= .bool (xI L j)/\Hi (BW wr wc))
    case first=>
     have ae:Hi (xI L j=decide (0<j/\L.getD j 0<L.getD (j-1) 0)):=rfl;by_cases Y:0<j
     ·obtain⟨g,aM,V,aT,aU,bf,be,c1,f1, -⟩:=u.o.pP j UN
      obtain⟨aP,a5,az, -, -, -, -,c2,ag, -⟩:=u.o.pP (j-1) UN;simp only [mJ]at V az;obtain⟨rfl, -, -⟩:=V;obtain⟨K, -, -⟩:=az;have aN:aP=g:=(by injection K with K;injection K with K;exact K.symm);subst aN;have au:L.getD j 0=L[j]' UN:=(by rw [U5,z2 UN];rfl);have av:L.getD (j-1) 0=L[j-1]' UN:=(by rw [U5,z2 UN];rfl);have ad:Hi (xI L j=decide (L[j]' UN<L[j-1]' UN)):=Hd (by rw [ae.o,au,av];simp [Y]);generalize L[j]=x at*;generalize L[j-1]=y at*
      have aC:decide ((0:Int)<(j:Int))=true:=iP UN;have aD:wrap64 ((j:Int)-1)=((j-1:Nat):Int):=(by unfold wrap64;omega);have a1:(j:Int)<(n:Int):=UN;have a2:((j-1:Nat):Int)<(n:Int):=UN;have a3:(0:Int)<=(j:Int):=UN;have a4:(0:Int)<(j:Int):=UN;clear au av K f1 ag aT aU ae;have q1:=hW c1;have q2:=hW c2;clear c1 c2;go_wp2;refine m6 ?_
      repeat (first|go_big_quiet_step (exact ie (CW _ x y))|quiet_step (exact ie (CW _ x y)))
      refine lz ?_;intro a0 ai;clear q1 q2;go_wp2;go_meet
      case rel=>exact⟨by rw [ad.o],ai⟩
     ·have ad:Hi (xI L j=false):=by show _=_;rw [ae.o,pg];exact λh=>Y h.1
      have aC:decide ((0:Int)<(j:Int))=false:=iH UN;have aD: ¬(0:Int)<(j:Int):=UN;go_wp2;refine m6 ?_
      repeat (first|go_big_quiet_step (fail)|quiet_step (fail))
      refine lz ?_;intro a0 ai;go_wp2;go_meet
      case rel=>exact⟨by rw [ad.o],ai⟩
    case rest=>
     obtain⟨rfl,ab⟩:=hcut;obtain⟨ar,ap⟩:=ik (u.o.c' ab.o) (G.o.trans (Kept.of_below ab.o) λ_ _ h=>h);clear u G ab
     cases U:xI L j with
     |true=>
      have ah:0<j/\L.getD j 0<L.getD (j-1) 0:=(by unfold xI at U;rwa [jk]at U);obtain⟨k,aV⟩: ∃k,j=k+1:=⟨j-1,UN⟩;subst aV;rw [qT]at ah;have aK:=Hd (Hb UN UN ao.o ah.2);have aI:=Hd ((Ez L k UN).trans z.o);obtain⟨g,aM,V,c1,c2,f1,ag,aL,aO,ax,aw⟩:=ar.o.swap k UN;have aA:a=some ⟨g,0,none⟩:=(by simp only [mJ]at V;exact V.1);have aH:=Hd (ax.c' (g' _ _).drew);have aF:Hi (Kept (λq=>(Value.slice a n cap).ownBlock≠some q) w _):=ap.o.trans ((aw.mono (S':=λq=>(Value.slice a n cap).ownBlock≠some q) λq _ aX e=>aX (by rw [e,aA];rfl)).drew) λ_ _ h=>h;have d1:wc.drew.cell? ⟨g,k+1,none⟩=_:=c1;have a6:wc.drew.cell? ⟨g,k,none⟩=_:=c2;have a7:wc.drew.frozen? ⟨g,k+1,none⟩=false:=f1;have a8:wc.drew.frozen? ⟨g,k,none⟩=false:=ag;have a9:((wc.setCell ⟨g,k+1,none⟩ (U2 (L.getD k 0))).drew).cell? ⟨g,k,none⟩=_:=aL;have bb:((wc.setCell ⟨g,k+1,none⟩ (U2 (L.getD k 0))).drew).frozen? ⟨g,k,none⟩=false:=aO;generalize L.getD (k+1) 0=x at*;generalize L.getD k 0=y at*;subst aA;have aC:wrap64 (((k+1:Nat):Int)-1)=(k:Int):=(by unfold wrap64;omega);have aD:wrap64 ((k:Int)+1-1)=(k:Int):=(by unfold wrap64;omega);have a1:((k+1:Nat):Int)<(n:Int):=UN;have a2:(k:Int)<(n:Int):=UN;have a3:(0:Int)<=(k:Int):=UN;have a4:(k:Int)+1<(n:Int):=UN;have bm:(0:Int)<=(k:Int)+1:=UN;clear ax aw V ah;go_wp2;go_region
      all_goals
       go_wp2;go_roundw
       case rel=>exact⟨k,_,by go_num,UN,aI,aK,aH,aF⟩
       case measure=>simp [intOf]
     |false=>
      have hdone:oM L (i+1):=Hc ao.o (by
       unfold xI at U;rw [pg]at U;by_cases Y:j=0
       ·exact .inl Y
       ·exact .inr (by have: ¬(L.getD j 0<L.getD (j-1) 0):=λh=>U ⟨UN,h⟩;omega))
      have aE:=Hd hdone;clear U hdone;go_wp2;go_roundw
      case rel=>exact⟨i+1,L,by go_num,UN,UN,z,aE,ar,ap⟩
      case measure=>exact UY
  ·have aQ:L.length=n:=z.o.length_eq.trans aq.o
   have ay:oM L L.length:=λp q h1 h2=>af.o p q h1 UN;have aJ:=Hd ay;clear ay;go_wp2;go_end0;exact⟨rfl,L,z.o,aJ.o,u.o,G.o⟩
theorem G' (w:World)(n:Nat)(u:n<=12):Calls prog 216 #[U2 n] w λe w'=>(∃k:Int,e= .returned (UZ k))/\BW w w':=by
 have j:n=0\/n=1\/n=2\/n=3\/n=4\/n=5\/n=6\/n=7\/n=8\/n=9\/n=10\/n=11\/n=12:=by omega
 rcases j with rfl|rfl|rfl|rfl|rfl|rfl|rfl|rfl|rfl|rfl|rfl|rfl|rfl
 all_goals
  go_wp2;go_ret;exact⟨⟨_,rfl⟩,g' _ _⟩
theorem KN (w:World)(n:Nat)(j:n<=12):Calls prog 147 #[U2 n] w λe w'=>(∃k:Int,e= .returned (UZ k))/\BW w w':=by
 go_in;go_wp2_with fail;refine(G' w n j).mono ?_;rintro e w1⟨⟨k,rfl⟩,hb1⟩;go_wp2;go_ret;exact⟨⟨_,rfl⟩,hb1⟩
theorem GZ (B:Nat)(F:UO)(w:World)(a:UP)(cap:Nat)(l:List Int)(n:Nat)(z:l.length=n)(V:n<=12)(k:Int)(h:Own ib B 24 F w (.slice a n cap) l):
 Calls prog 146 #[.slice a n cap,I0,UZ n,UZ k] w λe w'=>e= .returned (.tuple #[])/\ ∃L,L.Perm l/\oM L L.length/\Own ib B 24 F w' (.slice a n cap) L/\Kept (λk=>(Value.slice a n cap).ownBlock≠some k) w w':=by
 have K:=Hd h;clear h;have Y:(n:Int)<=12:=UN
 go_wp2;go_loopw [1,2] (λv1 v2 wr=>v1= I0/\v2= UZ n/\Hi (Own ib B 24 F wr (.slice a n cap) l)/\Hi (Kept (λk=>(Value.slice a n cap).ownBlock≠some k) w wr)) (λ_ _ _=>0)
 case atStart=>exact⟨rfl,rfl,K,Kept.refl _ _⟩
 case round=>
  obtain⟨rfl,rfl,U,G⟩:=hrel;have ab:wrap64 (n:Int)=(n:Int):=(by unfold wrap64;omega);go_wp2_with fail;refine(zC B F wr a cap l UN (by rw [z];exact U.o) n z).mono ?_;rintro e w2⟨rfl,L,h1,h2,u,y⟩;have j:=Hd (oJ h1 (oJ h2 (oJ u (G.o.trans y λ_ _ h=>h))));clear h1 h2 u y;go_wp2_with fail
  (try simp only [Exit.inBlock,Exit.then])
  refine bodyPost_ret (TY rfl _ _ _) rfl ?_;exact⟨rfl,L,j.o.1,j.o.2.1,j.o.2.2.1,j.o.2.2.2⟩
theorem EC (B:Nat)(F:UO)(w:World)(a:UP)(cap:Nat)(l:List Int)(ab:l.length<=12)(h:Own ib B 24 F w (.slice a l.length cap) l):
 Calls prog 96 #[.slice a l.length cap] w λe w'=>e= .returned (.tuple #[])/\ ∃L,L.Perm l/\L.Pairwise (· <= ·)/\Own ib B 24 F w' (.slice a l.length cap) L/\Kept (λk=>(Value.slice a l.length cap).ownBlock≠some k) w w':=by
 obtain⟨n,u⟩:=iF (l.length);rw [u]at h⊢;have y:=Hd h;have K:n<=12:=UN
 have V:=Hd u;clear h ab u;go_in;go_wp2_with fail;refine(KN w n K).mono ?_;rintro e w1⟨⟨k,rfl⟩,hb1⟩;obtain⟨Y,U⟩:=ik (y.o.c' hb1) hb1;clear hb1 y;go_wp2_with fail;refine(GZ B F w1 a cap l n V.o K k Y.o).mono ?_;rintro e w2⟨rfl,L,h1,h2,z,G⟩;have j:=Hd (oJ h1 (oJ (Di h2) (oJ z ((Kept.of_below U.o).trans G λ_ _ h=>h))));clear h1 h2 z G;go_wp2;go_end0;exact⟨rfl,L,j.o.1,j.o.2.1,j.o.2.2.1,j.o.2.2.2⟩
theorem Own.MF {α:Type}{r:kS α}{base base':Nat}{e:TypeId}{F:UO}{w:World}{v:Value}{xs:List α}(h:Own r base e F w v xs)(G:base'<=base):Own r base' e F w v xs:=by
 obtain⟨S,css,z,U,K,hr,j⟩:=h;refine⟨S,css,z,U,K,hr,j.1,?_⟩;rcases j.2 with u|⟨g,cap,cur,h1,h2,y⟩
 ·exact .inl u
 ·exact .inr ⟨g,cap,cur,h1,iu G h2,y⟩
theorem q0 (l:List Int)(d:Int)(k:Nat)(h:k<l.length):l.getD k d=l[k]:=by rw [U5,z2 h];rfl
theorem yE {S:UO}{w:World}{a:UP}{len cap:Nat}{l:List Int}(h:gZ.rel S w [.slice a len cap] l)(k:Nat)(u:k<l.length): ∃b off,a=some ⟨b,off,none⟩/\w.cell? ⟨b,off+k,none⟩=some (U2 l[k]):=by
 obtain⟨b,off,h1, -, -, -,j⟩:=il h k u;exact⟨b,off,h1,j⟩
def uw (l m:List Int)(k:Nat):Prop:= ∀j,j<k->l.getD j 0=m.getD j 0
theorem CB {l m:List Int}(h:l.length=m.length)(u:uw l m l.length):l=m:=by
 apply Um h;intro j h1 h2;have:=u j h1;rwa [q0 l 0 j h1,q0 m 0 j h2]at this
theorem yu (S S':UO)(w:World)(a b:UP)(la u ca cb:Nat)(l m:List Int)(ab:l.length=la)(ad:m.length=u)(h:gZ.rel S w [.slice a la ca] l)(ak:gZ.rel S' w [.slice b u cb] m)(az:la<=1000000):
 Calls prog 54 #[.slice a la ca,.slice b u cb] w (Rt w (.bool (decide (l=m)))):=by
 obtain⟨H,ap,G,Y⟩:=oX h ak ab ad;clear h ak;by_cases ae:la=u
 ·have ag:((la:Int)==(u:Int))=true:=by rw [iO];omega
  have ah:((la:Int) != (u:Int))=false:=(by rw [jt];omega);have U:=Hd ae;clear ab ad ae;go_wp2;go_loopw [5] (λaf wr=> ∃k:Nat,k<=la/\af= UZ k/\Hi (uw l m k)/\BW w wr) (λaf _=>la-(intOf af).toNat)
  case atStart=>exact⟨0,iy _,rfl,λj h=>absurd h (pf _),g' _ _⟩
  case round=>
   obtain⟨k,ax,rfl,ao,V⟩:=hrel;by_cases hlt:k<la
   ·obtain⟨av,o1,rfl,c1⟩:=yE (gZ.c' H.o V) k (by have:=G.o;omega)
    obtain⟨b2,o2,rfl,c2⟩:=yE (gZ.c' ap.o V) k (by have:=Y.o;have:=U.o;omega);have ai:Hi (l.getD k 0=l[k]'(by have:=G.o;omega)):=q0 l 0 k _;have aj:Hi (m.getD k 0=m[k]'(by have:=Y.o;have:=U.o;omega)):=q0 m 0 k _;generalize l[k]'(by have:=G.o;omega)=x at*
    generalize m[k]'(by have:=Y.o;have:=U.o;omega)=y at*
    have ar:=hW c1;have au:=hW c2;have ay:k<u:=(by have:=U.o;omega);have aA:(0:Int)<=(k:Int):=UN;have aC:(k:Int)<(la:Int):=UN;have aD:(k:Int)<(u:Int):=UN;clear c1 c2;go_wp2;refine m6 ?_
    repeat (first|go_big_quiet_step (fail)|quiet_step (fail))
    refine lz ?_;intro wq al;clear ar au;by_cases z:x=y
    ·have ag:(x==y)=true:=by simpa using z
     have ah:(x != y)=false:=(by simpa using z);have aq:Hi (uw l m (k+1)):=λj aw=>by
      rcases kZ j k with h|h
      ·exact ao.o j h
      ·obtain rfl:j=k:=UN
       rw [ai.o,aj.o,z]
     clear z;go_wp2;go_roundw
     case rel=>exact⟨k+1,UN,by go_num,aq,d' V al⟩
     case measure=>exact UY
    ·have ag:(x==y)=false:=by simpa using z
     have ah:(x != y)=true:=(by simpa using z);have K:Hi (decide (l=m)=false):=iH λe=>z (by rw [<-ai.o,<-aj.o,e]);clear z;go_wp2;go_ret;exact⟨g8 K.o.symm,d' V al⟩
   ·obtain rfl:k=la:=UN
    have K:Hi (decide (l=m)=true):=iP (CB (by have:=G.o;have:=Y.o;have:=U.o;omega) (by rw [G.o];exact ao.o));go_wp2;go_ret;exact⟨g8 K.o.symm,V⟩
 ·have ag:((la:Int)==(u:Int))=false:=by rw [je];omega
  have ah:((la:Int) != (u:Int))=true:=(by rw [iB];omega);have K:Hi (decide (l=m)=false):=iH λe=>ae (by rw [<-ab,<-ad,e]);clear ab ad ae;go_wp2;go_ret;exact⟨g8 K.o.symm,g' _ _⟩
end Go.Proofs.YtjdiofjjoefnhaaGreatDoor
