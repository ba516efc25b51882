/- Frontiers of the program: node, Empty, Valid. -/
import Derived.Test.YtjdiofjjoefnhaaGreatDoorMBlk
import Derived.Test.YtjdiofjjoefnhaaGreatDoorMMk
set_option maxRecDepth 100000
set_option maxHeartbeats 4000000
namespace Go.Proofs.YtjdiofjjoefnhaaGreatDoor
open Tryz Go.ChangeShapes Go.WideShapes Go.ChangeAt Go.RowKit Go.Sort
abbrev ln (l r:Int):Int:=iD 6 [l,r]
theorem pT (l r:Int):0<=ln l r/\ln l r<18446744069414584321:=nX _ _
def kp:Nat->Int
 |0=>iD 6 []
 |k+1=>ln (kp k) (kp k)
theorem pE: ∀k,0<=kp k/\kp k<18446744069414584321
 |0=>nX _ _
 |_+1=>pT _ _
theorem D5 {x:Int}(h:0<=x/\x<18446744069414584321):iZ x:=ir h.1 UN
theorem Hr (w:World)(n:Nat)(V:n<=12):
 Calls prog 127 #[UZ n] w (Rt w (U2 (kp n))):=by
 go_in;go_wp2_with fail;refine UR (oQ 6 UN (λ_=>True) w none 0 [] g4.nil US) λw1 hb1=> ?_;go_wp2;go_loopw [3,12] (λK z wr=> ∃k:Nat,k<=n/\z= UZ k/\K= U2 (kp k)/\BW w wr) (λ_ z _=>n-(intOf z).toNat)
 case atStart=>exact⟨0,iy _,rfl,rfl,hb1⟩
 case round=>
  obtain⟨k,U,rfl,rfl,G⟩:=hrel;have u:=Hd (pE k);by_cases hlt:k<n
  ·have j:Hi (ln (kp k) (kp k)=kp (k+1)):=rfl
   generalize kp k=x at*;go_wp2_with fail;refine UR (oO wr x x (D5 u.o) (D5 u.o)) λY hb3=> ?_;go_wp2;go_roundw
   case rel=>exact⟨k+1,UN,by go_num,by rw [<-j.o],d' G hb3⟩
   case measure=>exact UY
  ·obtain rfl:k=n:=UN
   clear u;obtain⟨x,y⟩:=iF (kp k);have j:=Hd y;rw [y];clear y;go_wp2;go_ret;exact⟨g2 j.o.symm,G⟩
structure xg where
 depth:Int
 count:Int
 left:List Int
abbrev xw (c:Int)(i:Nat):Int:=bits BinOp.and IntKind.i64 (c / 2^i) 1
structure tT (f:xg)(D:Nat):Prop where
 d0:1<=D
 d1:D<=12
 depth:f.depth=D
 c0:0<=f.count
 c1:f.count<=2^D
 len:f.left.length=D+1
 bits: ∀(i:Nat) (h:i<f.left.length),0<=f.left[i]/\f.left[i]<18446744069414584321/\(xw f.count i=0->f.left[i]=0)
theorem DR (S:UO)(w:World)(f:xg)(D:Nat)(ap:tT f D)(la:UP)(lc:Nat)(ae:gZ.rel S w [.slice la f.left.length lc] f.left):
 Calls prog 126 #[.agg #[UZ f.depth,UZ f.count,.slice la f.left.length lc]] w (Rt w (.bool true)):=by
 obtain⟨d0,d1,ad,c0,c1,aq,Y⟩:=ap;rw [ad];obtain⟨aj,ak,al⟩:=pL ⟨D,UN⟩;simp only at aj ak al;have U:=jc w (.cells #[UZ D,UZ f.count,.slice la f.left.length lc] 104);obtain⟨u,ai,ag,ah⟩:=oX (gY w (.cells #[UZ D,UZ f.count,.slice la f.left.length lc] 104)) (gZ.c' ae U) U Y;have aH:wrap64 ((D:Int)+1)=(f.left.length:Int):=by unfold wrap64;omega
 have aG:f.left.length<=13:=UN
 generalize aC:(2:Int)^D=K at*
 have ax:wrap64 K=K:=by unfold wrap64;omega
 have aA:((f.left.length:Int) != (D:Int)+1)=false:=by rw [jt];omega
 have ay:decide (f.count<0)=false:=iH UN;have az:decide (K<f.count)=false:=iH UN;clear U ae Y aq ad;go_in;go_upto_region 1 with(fail);generalize w.alloc (.cells #[UZ D,UZ f.count,.slice la f.left.length lc] 104)=W at*;obtain⟨y,z⟩:=a' u.o;go_upto_region 3 with(fail);have au:=g0 u.o;refine m6 ?_
 repeat (first|go_big_quiet_step (fail)|quiet_step (fail))
 refine lz ?_;intro wq ab;clear au;clear y z;obtain⟨y,z⟩:=a' (b' ab u.o);go_wp2_with fail;clear y z;go_loopw [36] (λV wr=> ∃k:Nat,k<=f.left.length/\V= UZ k/\BW W wr) (λV _=>f.left.length-(intOf V).toNat)
 case atStart=>exact⟨0,iy _,rfl,ab⟩
 case round=>
  obtain⟨k,aF,rfl,j⟩:=hrel;by_cases hlt:k<f.left.length
  ·obtain⟨b,off,rfl,aD,aI,n1,aE⟩:=il (gZ.c' ai.o j) k hlt
   obtain⟨av,aw,b2⟩:=ah.o k hlt;generalize f.left[k]=n at*;obtain⟨y,z⟩:=a' (b' j u.o);have G:=Hd j;clear j
   cases ao:(bits BinOp.and IntKind.i64 (f.count / 2^k) 1==0)with
   |true=>
    have ar:n=0:=b2 (by simpa using ao);subst ar;clear b2;go_wp2;go_roundw
    case rel=>exact⟨k+1,UN,by go_num,G.o⟩
    case measure=>exact UY
   |false=>
    clear b2;by_cases af:n=0
    ·subst af
     go_wp2;go_roundw
     case rel=>exact⟨k+1,UN,by go_num,G.o⟩
     case measure=>exact UY
    ·have aJ:(n != 0)=true:=by rw [iB];exact af
     go_wp2;go_roundw
     case rel=>exact⟨k+1,UN,by go_num,G.o⟩
     case measure=>exact UY
  ·obtain rfl:k=f.left.length:=UN
   go_wp2;go_ret;exact⟨rfl,d' ag.o j⟩
def ld (c:Int):Nat->Nat->Int->List Int->List Int
 |0,_,_,l=>l
 |n+1,j,d,l=>if xw c j=1 then ld c n (j+1) (ln (l.getD j 0) d) (l.set j 0)else l.set j d
def uj (f:xg)(j:Int):xg:=⟨f.depth,f.count+1,ld f.count (f.left.length) 0 j f.left⟩
theorem yY (c:Int)(n j:Nat)(d:Int)(l:List Int)(h:xw c j=1):ld c (n+1) j d l=ld c n (j+1) (ln (l.getD j 0) d) (l.set j 0):=by
 conv=>lhs;unfold ld
 rw [g7 h]
theorem wN (c:Int)(n j:Nat)(d:Int)(l:List Int)(h:xw c j≠1):ld c (n+1) j d l=l.set j d:=by
 conv=>lhs;unfold ld
 rw [g3 h]
theorem rH (c:Int): ∀(n j:Nat) (d:Int) (l:List Int),(ld c n j d l).length=l.length
 |0,_,_,_=>rfl
 |n+1,j,d,l=>by
  unfold ld;split
  ·rw [rH c n,TG]
  ·rw [TG]
theorem uE (c:Nat): ∀n,(∀i,i<n->c / 2^i % 2=1)->c % 2^n=2^n-1
 |0,_=>by simp [Nat.mod_one]
 |n+1,h=>by
  have j:=uE c n λi hi=>h i UN;have h1:=h n UN;have u:0<2^n:=vT UN;rw [Nat.mod_pow_succ,j,h1,rV];omega
theorem F6 (c n:Nat)(h: ∀i,i<n->c / 2^i % 2=1):2^n<=c+1:=by
 have h1:=uE c n h;have h2:=Nat.mod_le c (2^n);omega
theorem Ab (c u:Nat)(h: ∀i,i<u->c / 2^i % 2=1)(G:c / 2^u % 2=0):(c+1) / 2^u % 2=1/\ ∀i,u<i->(c+1) / 2^i=c / 2^i:=by
 have h1:=uE c u h;have V:0<2^u:=vT UN;have h2:c % 2^(u+1)=2^u-1:=by rw [Nat.mod_pow_succ,h1,G];omega
 have y:=Nat.div_add_mod c (2^(u+1));rw [h2]at y;obtain⟨q,z⟩:=iF (c / 2^(u+1));rw [z]at y;have e:2^(u+1)*q=2^u*(2*q):=by rw [rV,Nat.mul_assoc]
 have K:c+1=2^u*(2*q+1):=by rw [Nat.mul_add,<-e];omega
 have U:(c+1) / 2^(u+1)=q:=by
  have:c+1=2^u+2^(u+1)*q:=UN;rw [this,Nat.add_mul_div_left _ _ (vT UN),Nat.div_eq_of_lt (by rw [rV];omega)];omega
 refine⟨by rw [K,FG _ V];omega,λi hi=> ?_⟩;obtain⟨j,rfl⟩: ∃j,i=(u+1)+j:=⟨i-(u+1),UN⟩;rw [Nat.pow_add,<-FF,<-FF,U,z]
theorem pV (n i:Nat)(h:n / 2^i<4096):xw (n:Int) i=((n / 2^i % 2:Nat):Int):=by
 have e:(n:Int) / 2^i=((n / 2^i:Nat):Int):=by push_cast;rfl
 show bits BinOp.and IntKind.i64 ((n:Int) / 2^i) 1=_;rw [e,Gq _ h]
theorem s8 (c D:Nat)(Y:c<2^D)(K:D<=12): ∀(n j:Nat) (d:Int) (l:List Int),j+n=D+1->l.length=D+1->(∀i,i<j->c / 2^i % 2=1)->(∀i,i<j->l.getD i 0=0)->(0<=d/\d<18446744069414584321)->
 ∃m,j<=m/\m<=D/\(∀i,i<m->c / 2^i % 2=1)/\c / 2^m % 2=0/\(∀i,i<m->(ld c n j d l).getD i 0=0)/\(0<=(ld c n j d l).getD m 0/\(ld c n j d l).getD m 0<18446744069414584321)/\ ∀i,m<i->(ld c n j d l).getD i 0=l.getD i 0
 |0,j,d,l,h1,h2,u,y,G=>by
  exfalso;have z:=F6 c (D+1) λi hi=>u i UN;rw [rV]at z;omega
 |n+1,j,d,l,h1,h2,u,y,G=>by
  have hlt:c / 2^j<4096:=by
   have z:c<2^12:=jg Y (uq UN K);exact xF (Cd _ _) z
  have U:=pV c j hlt;unfold ld;by_cases V:c / 2^j % 2=1
  ·rw [g7 (by rw [U,V];rfl)]
   have ae: ∀i,i<j+1->c / 2^i % 2=1:=λi hi=>(by rcases Nat.lt_succ_iff_lt_or_eq.1 hi with h|rfl;exact u i h;exact V);obtain⟨m,m1,m2,af,ag,ah,ai,aj⟩:=s8 c D Y K n (j+1) (ln (l.getD j 0) d) (l.set j 0) UN (by rw [TG,h2]) ae (λi hi=>by
    rw [U5,TR];by_cases ab:j=i
    ·rw [g7 ab];split<;>rfl
    ·rw [g3 ab,<-U5];exact y i UN) (pT _ _)
   refine⟨m,UN,m2,af,ag,ah,ai,λi hi=> ?_⟩;rw [aj i hi,U5,TR,g3 UN,<-U5]
  ·have ad:c / 2^j % 2=0:=UN
   rw [g3 (by rw [U,ad];decide)];refine⟨j,g9 _,UN,u,ad,λi hi=> ?_,?_,λi hi=> ?_⟩
   ·rw [U5,TR,g3 UN,<-U5];exact y i hi
   ·rw [U5,TR,g7 rfl,g7 UN];exact G
   ·rw [U5,TR,g3 UN,<-U5]
theorem Gr {f:xg}{D:Nat}(h:tT f D)(Y:f.count<2^D)(u:Int)(al:0<=u/\u<18446744069414584321):tT (uj f u) D:=by
 obtain⟨d0,d1,ab,c0,c1,y,V⟩:=h;obtain⟨U,ct,j⟩:=f;simp only at ab c0 c1 y V Y;obtain⟨c,rfl⟩:=lv c0;have ai:c<2^D:=by exact_mod_cast Y
 have aq:2^D<=2^12:=uq UN d1;obtain⟨m,m1,m2,ap,ae,af,K,ag⟩:=s8 c D ai d1 (D+1) 0 u j UN y (λi hi=>UN) (λi hi=>UN) al;obtain⟨s1,s2⟩:=Ab c m ap ae;rw [<-y]at af K ag;refine⟨d0,d1,ab,?_,?_,?_,?_⟩
 ·show(0:Int)<=c+1;omega
 ·show((c:Int)+1)<=2^D;omega
 ·show(ld _ _ _ _ _).length=_;rw [rH,y]
 ·intro i hi
  have ad:i<j.length:=(by have:i<(ld c j.length 0 u j).length:=hi;rwa [rH]at this);have aj:(uj ⟨U,c,j⟩ u).left[i]=(ld c j.length 0 u j).getD i 0:=by
   rw [U5,z2 (show i<(ld (c:Int) j.length 0 u j).length from hi)];rfl
  rw [aj];have hcast:(uj ⟨U,(c:Int),j⟩ u).count=((c+1:Nat):Int):=(by show(c:Int)+1=_;push_cast;rfl);rw [hcast];rcases Nat.lt_trichotomy i m with h|rfl|h
  ·rw [af i h];exact⟨UN,UN,λ_=>rfl⟩
  ·refine⟨K.1,K.2,λz=> ?_⟩
   exfalso;have hlt:(c+1) / 2^i<4096:=by
    rcases vU i with rfl|ao
    ·have ah:c / 2^0=c:=US
     rw [ah]at ae;have:(c+1) / 2^0=c+1:=US;rw [this];have:2^D % 2=0:=(by obtain⟨k,rfl⟩: ∃k,D=k+1:=⟨D-1,UN⟩;rw [rV];omega);omega
    ·have h2:2^1<=2^i:=uq UN ao
     exact Nat.div_lt_of_lt_mul UN
   rw [pV _ _ hlt,s1]at z;omega
  ·rw [ag i h]
   have G:=V i ad;have ak:j.getD i 0=j[i]:=(by rw [U5,z2 ad];rfl);rw [ak];refine⟨G.1,G.2.1,λz=>G.2.2 ?_⟩;have e:=s2 i h;have hlt:c / 2^i<4096:=xF (Cd _ _) UN;rw [pV _ _ (by rw [e];exact hlt),e]at z;rw [pV _ _ hlt];exact z
theorem rG (S:UO)(w:World)(a:UP)(cap:Nat)(l:List Int)(h:gZ.rel S w [.slice a l.length cap] l)(ah:l.length<=1000000):
 Calls prog 83 #[.slice a l.length cap] w λe w'=> ∃v,e= .returned v/\Own ib w.heap.size 24 (λk=>w.heap.size<=k) w' v l/\BW w w':=by
 have af:=Gh
 cases a with
 |none=>
  have ab:l= []:=by
   cases l with
   |nil=>rfl
   |cons x xs=>obtain⟨b,off,h1, -⟩:=il h 0 US;cases h1
  subst ab;go_wp2;go_ret;exact⟨_,rfl,Own.nil _ _ _ _ _,g' _ _⟩
 |some ae=>
  have j:=jc w (.cells #[] 24);have u:=Hd (Own.empty ib w.heap.size 24 (gY w (.cells #[] 24)) (g9 _));have V:=Hd (Src.plain (S':=λ_=>False) (Plain.int .u64) (Src.of_slice (gZ.c' h j)));have G:=Hd j;clear h j;go_in;go_wp2_with (at_builtin;refine iC (r:=ib) (base:=w.heap.size) rfl _ _ rfl iX rfl rfl u.o V.o (λ_ _ h=>h.elim) (λ_ _ h=>h) (by unfold maxLen;simp;omega) (by simp;omega) (by rw [U4];omega) ?_)
  intro ad z y Y _;have hb3:BW w z:=Kept.behind G.o Y (by rw [U4];omega) λk ag h=>by have:=(u.o.lt h).2.2;omega
  have U:Hi (Own ib w.heap.size 24 (λk=>w.heap.size<=k) z ad l):=by
   have:=y.mono (F':=λk=>w.heap.size<=k) λk _ h=>(by rcases h with h|h<;>omega);exact this
  have K:=Hd hb3;clear y hb3;go_wp2;go_ret;exact⟨_,rfl,U.o,K.o⟩
theorem uY (S:UO)(w:World)(f:xg)(D:Nat)(j:tT f D)(la:UP)(lc:Nat)(u:gZ.rel S w [.slice la f.left.length lc] f.left):
 Calls prog 126 #[.agg #[UZ D,UZ f.count,.slice la f.left.length lc]] w (Rt w (.bool true)):=by
 have h:=DR S w f D j la lc u;rwa [j.depth]at h
def OE (f:xg)(w:World)(e:Ending)(w':World):Prop:= ∃(a:UP) (c:Nat),e= .returned (.tuple #[.agg #[UZ f.depth,UZ f.count,.slice a f.left.length c],I0])/\gZ.rel (λk=>w.heap.size<=k) w' [.slice a f.left.length c] f.left/\BW w w'
theorem BK (S:UO)(w:World)(f:xg)(D:Nat)(aM:tT f D)(bK:f.count<2^D)(la:UP)(lc:Nat)(aP:gZ.rel S w [.slice la f.left.length lc] f.left)(u:Int)(bv:0<=u/\u<18446744069414584321):
 Calls prog 183 #[.agg #[UZ f.depth,UZ f.count,.slice la f.left.length lc],u] w (OE (uj f u) w):=by
 have a0:=Hd aM;obtain⟨d0,d1,V,c0,c1,aT,bp⟩:=aM;obtain⟨bf,bg,bh⟩:=pL ⟨D,UN⟩;simp only at bf bg bh;obtain⟨aZ,aE⟩:=ik V aT;have aw:=hd (jc w (.cells #[UZ D,UZ f.count,.slice la f.left.length lc] 104)) (.cells #[I0,I0,S0] 104);have ae:=Hd (ji w (.cells #[UZ D,UZ f.count,.slice la f.left.length lc] 104) (.cells #[I0,I0,S0] 104)).2;have aI:=Hd (ji w (.cells #[UZ D,UZ f.count,.slice la f.left.length lc] 104) (.cells #[I0,I0,S0] 104)).1;obtain⟨aD,aX⟩:=ik (gZ.c' aP aw) aw;have y:Hi (((w.alloc (.cells #[UZ D,UZ f.count,.slice la f.left.length lc] 104)).alloc (.cells #[I0,I0,S0] 104)).heap.size=w.heap.size+2):=Hd (by rw [U4,U4]);have bE:Hi (f.count+1<=2^D):=Hd UN;have bQ:f.left.length<=13:=UN
 have bM:f.count<4096:=UN
 rw [V];generalize bo:(2:Int)^D=ap at*
 have bG:wrap64 ap=ap:=by unfold wrap64;omega
 have bH:(f.count==ap)=false:=by rw [je];omega
 have bI:decide (18446744069414584321<=u)=false:=iH UN;have bN:wrap64 (f.count+1)=f.count+1:=by unfold wrap64;omega
 clear aw aP bp aT V;go_in;go_upto_region 1 with(fail);generalize (w.alloc (.cells #[UZ D,UZ f.count,.slice la f.left.length lc] 104)).alloc (.cells #[I0,I0,S0] 104)=W at*;obtain⟨K,U⟩:=a' ae.o;go_wp2_with fail;refine UR (uY S W f D a0.o la lc aD.o) λw1 hb1=> ?_;clear K U;have bB:=g0 (b' hb1 ae.o);go_wp2;refine m6 ?_
 repeat (first|go_big_quiet_step (fail)|quiet_step (fail))
 refine lz ?_;intro wq aK;clear bB;have hbq:=d' hb1 aK;obtain⟨K,U⟩:=a' (b' hbq ae.o);go_wp2_with fail;refine(rG S wq la lc f.left (gZ.c' aD.o hbq) UN).mono ?_;rintro e bT⟨v,rfl,aU,hb3⟩;obtain⟨aF,bD,aY,ab,HQ⟩:=zL aU (d' hbq hb3) hb3 hbq hbq.size;clear aU hb1 aK hbq hb3 K U;obtain⟨g,cap,rfl, -, -,bt,aO, -, -, -⟩:=aF.o.pP 0 (by have:=aE.o;omega);have aA:=Hd aO;clear bt aO;go_wp2;go_loopw [7,8] (λay bz wr=> ∃(j:Nat) (d:Int) (l:List Int),ay= UZ j/\bz= U2 d/\j<=D/\Hi (0<=d/\d<18446744069414584321)/\Hi (l.length=f.left.length)/\Hi (Own ib wq.heap.size 24 (λk=>wq.heap.size<=k) wr (.slice (some ⟨g,0,none⟩) f.left.length cap) l)/\Hi (Kept (λi=>i<wq.heap.size) wq wr)/\Hi (∀i,i<j->xw f.count i=1)/\Hi (ld f.count (f.left.length-j) j d l=ld f.count f.left.length 0 u f.left)) (λay _ _=>D+1-(intOf ay).toNat)
 case atStart=>exact⟨0,u,f.left,rfl,rfl,iy _,bv,rfl,aF.o,Kept.of_below aY.o,λi hi=>UN,rfl⟩
 case round=>
  obtain⟨j,d,l,rfl,rfl,bR,V,G,ai,Y,ax,ak⟩:=hrel;have hlt:j<f.left.length:=(by have:=aE.o;omega);obtain⟨bi,be,aj, -, -, -, -,hcell,aN,aV⟩:=ai.o.pP j (by rw [G.o];exact hlt);simp only [mJ,pd,qd,and_true]at aj;obtain⟨rfl, -,rfl⟩:=aj;have bb:=Hd (hE Y.o (b' ab.o ae.o) (show w.heap.size<wq.heap.size by have:=y.o;have:=HQ.o;omega));have bF:=Hd (hE Y.o (b' ab.o aI.o) (show w.heap.size+1<wq.heap.size by have:=y.o;have:=HQ.o;omega));have aH:Hi (f.left.length-j=(f.left.length-(j+1))+1):=Hd UN;have a1:Hi (l.getD j 0=l[j]'(by rw [G.o];exact hlt)):=Hd (by rw [U5,z2 (by rw [G.o];exact hlt)];rfl);have a5:=Hd (mN ai.o.slice _ (z3 (show j<l.length by rw [G.o];exact hlt)));generalize l[j]'(by rw [G.o];exact hlt)=x at*
  have a7:=Hd aV;clear aV;obtain⟨K,U⟩:=a' bb.o;by_cases z:xw f.count j=1
  ·have bC:(bits BinOp.and IntKind.i64 (f.count / 2^j) 1==1)=true:=by rw [iO];exact z
   have HC:Hi (ld f.count (f.left.length-(j+1)) (j+1) (ln x d) (l.set j 0)=ld f.count f.left.length 0 u f.left):=by
    show _=_;rw [<-ak.o,aH.o,yY _ _ _ _ _ z,a1.o]
   have aG:Hi (∀i,i<j+1->xw f.count i=1):=λi hi=>(by rcases Nat.lt_succ_iff_lt_or_eq.1 hi with h|rfl;exact ax.o i h;exact z);have bw:j+1<=D:=by
    obtain⟨c,bq⟩:=lv c0;have br:c<4096:=UN;have bx: ∀i,i<j+1->c / 2^i % 2=1:=λi hi=>by
     have h1:=aG.o i hi;rw [bq,pV c i (xF (Cd _ _) br)]at h1;omega
    have h2:=F6 c (j+1) bx;have bJ:c<2^D:=by
     have:((c:Nat):Int)<((2^D:Nat):Int):=by push_cast;rw [bo];omega
     exact_mod_cast this
    rcases kZ D (j+1)with aL|aL
    ·exfalso
     have bm:2^(D+1)<=2^(j+1):=uq UN UN;rw [rV]at bm;omega
    ·exact aL
   clear z ak ax;go_wp2_with fail;refine UR (oO wr x d a5.o (D5 V.o)) λbA av=> ?_;have a4:=Hd (ai.o.c' av);obtain⟨bi,be,aj, -, -,bP, -,bL,bO,aW⟩:=a4.o.pP j (by rw [G.o];exact hlt);simp only [mJ,pd,qd,and_true]at aj;obtain⟨rfl, -,rfl⟩:=aj;obtain⟨ah,ag⟩:=aW 0 (by decide);have ao:=Hd ah;have ad:Hi (Kept (λi=>i<wq.heap.size) wq (bA.setCell ⟨g,j,none⟩ U0)):=(Y.o.trans (Kept.of_below (S:=λi=>i<wq.heap.size) av) λ_ _ h=>h).trans ag λi _ h=>(by have af:i<wq.heap.size:=h;have:=aA.o;show i≠g;omega);have a2:Hi ((l.set j 0).length=f.left.length):=Hd (by rw [TG,G.o]);have a3:=Hd (pT x d);clear ah ag aW Y ai hcell aN K U av;go_wp2;go_roundw
   case rel=>exact⟨j+1,ln x d,l.set j 0,by go_num,rfl,bw,a3.o,a2.o,ao.o,ad.o,aG.o,HC.o⟩
   case measure=>exact UY
  ·have bC:(bits BinOp.and IntKind.i64 (f.count / 2^j) 1==1)=false:=by rw [je];exact z
   have HC:Hi (l.set j d=ld f.count f.left.length 0 u f.left):=by
    show _=_;rw [<-ak.o,aH.o,wN _ _ _ _ _ z]
   obtain⟨ah,ag⟩:=a7.o d (D5 V.o);have ao:=Hd ah;have ad:Hi (Kept (λi=>i<wq.heap.size) wq (wr.setCell ⟨g,j,none⟩ (U2 d))):=Y.o.trans ag λi _ h=>(by have af:i<wq.heap.size:=h;have:=aA.o;show i≠g;omega);clear ah ag z ak ax Y ai;go_upto_region 12 with(fail);have a9:=Hd (hE ad.o (b' ab.o ae.o) (show w.heap.size<wq.heap.size by have:=y.o;have:=HQ.o;omega));have aJ:=Hd (hE ad.o (b' ab.o aI.o) (show w.heap.size+1<wq.heap.size by have:=y.o;have:=HQ.o;omega));generalize wr.setCell ⟨g,j,none⟩ (U2 d)=aq at*;clear K U hcell aN;obtain⟨K,U⟩:=a' a9.o;obtain⟨bS,q1⟩:=a' aJ.o;have au:=j3 (old:= [I0,I0,S0]) aJ.o [UZ D,UZ (f.count+1),.slice (some ⟨g,0,none⟩) f.left.length cap] rfl;have ar:=i2 aq (q:=w.heap.size+1) (S:=λk=>k≠w.heap.size+1) (λh=>h rfl) [UZ D,UZ (f.count+1),.slice (some ⟨g,0,none⟩) f.left.length cap] 0;obtain⟨az,al⟩: ∃az,az=aq.setCells (w.heap.size+1) 0 [UZ D,UZ (f.count+1),.slice (some ⟨g,0,none⟩) f.left.length cap]:=⟨_,rfl⟩;rw [<-al]at au ar;simp only [World.setCells,Nat.reduceAdd,nC]at al;obtain⟨a8,a6,aC⟩:=kT al au ar;clear al au ar;go_wp2_with fail;rw [<-a8.o];obtain⟨bj, -⟩:=a' a6.o;refine iQ (v:= .tuple #[.agg #[UZ D,UZ (f.count+1),.slice (some ⟨g,0,none⟩) f.left.length cap],I0]) (by simp [results,results183,go_sem,bj]) rfl ?_;have aQ:(uj f u).left.length=f.left.length:=rH _ _ _ _ _;refine⟨some ⟨g,0,none⟩,cap,by rw [aQ,show(uj f u).depth=(D:Int)from aZ.o];rfl,?_,?_⟩
   ·rw [aQ]
    have h1:=gZ.keep ao.o.slice (aC.o.mono λk _ h=>by have af:wq.heap.size<=k:=h;have:=y.o;have:=HQ.o;show k≠_;omega);rw [HC.o]at h1;exact gZ.mono h1 λk _ h=>by have af:wq.heap.size<=k:=h;have:=y.o;have:=HQ.o;show _<=_;omega
   ·have bk:Kept (λi=>i<w.heap.size) w wq:=(Kept.of_below (S:=λi=>i<w.heap.size) aX.o).trans (Kept.of_below (S:=λi=>i<w.heap.size) ab.o) λ_ _ h=>h
    have bn:Kept (λi=>i<w.heap.size) w aq:=bk.trans ad.o λi _ h=>(by have af:i<w.heap.size:=h;have:=y.o;have:=HQ.o;show i<_;omega);have h1:Kept (λi=>i<w.heap.size) w az:=bn.trans aC.o λi _ h=>(by have af:i<w.heap.size:=h;show i≠_;omega);exact h1.below (g9 _)
def nS (c:Int)(l:List Int):Nat->Int
 |0=>kp 0
 |k+1=>if xw c k=1 then ln (l.getD k 0) (nS c l k)else ln (nS c l k) (kp k)
theorem Af (c:Int)(l:List Int): ∀k,0<=nS c l k/\nS c l k<18446744069414584321
 |0=>pE 0
 |k+1=>by
  unfold nS;split
  ·exact pT _ _
  ·exact pT _ _
def mT (f:xg)(D:Nat):Int:=if f.count=2^D then f.left.getD D 0 else nS f.count f.left D
theorem CD {f:xg}{D:Nat}(h:tT f D):0<=mT f D/\mT f D<18446744069414584321:=by
 unfold mT;split
 ·have j:D<f.left.length:=by rw [h.len];omega
  rw [U5,z2 j];exact⟨(h.bits D j).1,(h.bits D j).2.1⟩
 ·exact Af _ _ _
def mf (D:Nat):xg:=⟨D,0,List.replicate (D+1) 0⟩
theorem Be (D:Nat)(d0:1<=D)(d1:D<=12):tT (mf D) D:=by
 refine⟨d0,d1,rfl,vS _,?_,by simp [mf],λi h=> ?_⟩
 ·exact sn (Int.pow_pos UN)
 ·have:(mf D).left[i]=0:=by simp [mf]
  rw [this];exact⟨UN,UN,λ_=>rfl⟩
theorem yN (S:UO)(w:World)(f:xg)(D:Nat)(az:tT f D)(la:UP)(lc:Nat)(aA:gZ.rel S w [.slice la f.left.length lc] f.left):
 Calls prog 81 #[.agg #[UZ f.depth,UZ f.count,.slice la f.left.length lc]] w (Rt w (U2 (mT f D))):=by
 have aG:=Hd az;obtain⟨d0,d1,ay,c0,c1,aD,aM⟩:=az;obtain⟨aI,aJ,aK⟩:=pL ⟨D,UN⟩;simp only at aI aJ aK;have aU:=Hd aD;have ai:=jc w (.cells #[UZ D,UZ f.count,.slice la f.left.length lc] 104);obtain⟨G,af,aq⟩:=kT (gY w (.cells #[UZ D,UZ f.count,.slice la f.left.length lc] 104)) (gZ.c' aA ai) ai;have av:Hi (mT f D=if f.count=2^D then f.left.getD D 0 else nS f.count f.left D):=rfl;have aZ:f.left.length<=13:=UN
 have aC:D<f.left.length:=UN
 rw [ay];generalize aW:(2:Int)^D=Y at*
 have aV:wrap64 Y=Y:=by unfold wrap64;omega
 clear ai aA aM aD ay;go_in;go_upto_region 1 with(fail);generalize w.alloc (.cells #[UZ D,UZ f.count,.slice la f.left.length lc] 104)=W at*;obtain⟨y,z⟩:=a' G.o;go_wp2_with fail;refine UR (uY S W f D aG.o la lc af.o) λw1 hb1=> ?_;clear y z;have aF:=g0 (b' hb1 G.o);by_cases hfull:f.count=Y
 ·have ad:Hi (mT f D=f.left.getD D 0):=by show _=_;rw [av.o,g7 hfull]
  have aL:(f.count==Y)=true:=(by rw [iO];exact hfull);clear hfull;go_wp2;refine m6 ?_
  repeat (first|go_big_quiet_step (fail)|quiet_step (fail))
  refine lz ?_;intro wq aj;clear aF;have hbq:=d' hb1 aj;obtain⟨y,z⟩:=a' (b' hbq G.o);obtain⟨b,off,rfl,aN,aE,n1,hcell⟩:=il (gZ.c' af.o hbq) D aC;have ae:Hi (f.left.getD D 0=f.left[D]):=Hd (by rw [U5,z2 aC];rfl);generalize f.left[D]=n at*;go_wp2;go_ret;exact⟨g2 (by rw [ad.o,ae.o]),d' aq.o hbq⟩
 ·have ad:Hi (mT f D=nS f.count f.left D):=by show _=_;rw [av.o,g3 hfull]
  have aL:(f.count==Y)=false:=(by rw [je];exact hfull);have aX:f.count<4096:=UN;clear hfull;go_wp2;refine m6 ?_
  repeat (first|go_big_quiet_step (fail)|quiet_step (fail))
  refine lz ?_;intro wq aj;clear aF;have hbq:=d' hb1 aj;obtain⟨y,z⟩:=a' (b' hbq G.o);go_wp2_with fail;refine UR (Hr wq 0 UN) λa0 hb3=> ?_;have ax:=d' hbq hb3;clear y z;obtain⟨y,z⟩:=a' (b' ax G.o);go_wp2_with fail;clear y z;go_loopw [3,4,25] (λaP aO ao wr=> ∃(k:Nat) (j u:Int),k<=D/\ao= UZ k/\aP= U2 j/\aO= U2 u/\Hi (j=kp k)/\Hi (u=nS f.count f.left k)/\BW W wr) (λ_ _ ao _=>D-(intOf ao).toNat)
  case atStart=>exact⟨0,_,_,iy _,rfl,rfl,rfl,rfl,rfl,ax⟩
  case round=>
   obtain⟨k,j,u,aY,rfl,rfl,rfl,al,ak,U⟩:=hrel;by_cases hlt:k<D
   ·obtain⟨b,off,rfl,aN,aE,n1,hcell⟩:=il (gZ.c' af.o U) k UN
    have ae:Hi (f.left.getD k 0=f.left[k]' UN):=Hd (by rw [U5,z2 UN];rfl);have V:Hi (iZ j):=Hd (by rw [al.o];exact D5 (pE k));have au:Hi (iZ u):=Hd (by rw [ak.o];exact D5 (Af _ _ k));have aH:Hi (iZ (f.left[k]' UN)):=ir aE n1;have ar:Hi (ln j j=kp (k+1)):=Hd (by rw [al.o];rfl);have aw:Hi (nS f.count f.left (k+1)=if xw f.count k=1 then ln (f.left.getD k 0) u else ln u j):=Hd (by rw [al.o,ak.o];rfl);generalize f.left[k]' UN=n at*
    obtain⟨y,z⟩:=a' (b' U G.o);have ab:=Hd U;clear U;by_cases K:xw f.count k=1
    ·have aT:(bits BinOp.and IntKind.i64 (f.count / 2^k) 1==1)=true:=by rw [iO];exact K
     have ag:Hi (ln n u=nS f.count f.left (k+1)):=Hd (by rw [aw.o,g7 K,ae.o]);clear K;go_wp2_with fail;refine UR (oO wr n u aH.o au.o) λap ah=> ?_;clear y z;go_wp2_with fail;refine UR (oO ap j j V.o V.o) λaQ hb5=> ?_;go_wp2;go_roundw
     case rel=>exact⟨k+1,_,_,UN,by go_num,rfl,rfl,ar,ag,d' ab.o (d' ah hb5)⟩
     case measure=>exact UY
    ·have aT:(bits BinOp.and IntKind.i64 (f.count / 2^k) 1==1)=false:=by rw [je];exact K
     have ag:Hi (ln u j=nS f.count f.left (k+1)):=Hd (by rw [aw.o,g3 K]);clear K;go_wp2_with fail;refine UR (oO wr u j au.o V.o) λap ah=> ?_;clear y z;go_wp2_with fail;refine UR (oO ap j j V.o V.o) λaQ hb5=> ?_;go_wp2;go_roundw
     case rel=>exact⟨k+1,_,_,UN,by go_num,rfl,rfl,ar,ag,d' ab.o (d' ah hb5)⟩
     case measure=>exact UY
   ·obtain rfl:k=D:=UN
    have ab:=Hd U;clear U;go_wp2;go_ret;exact⟨g2 (by rw [ad.o,ak.o]),d' aq.o ab.o⟩
theorem Hn (w:World)(D:Nat)(d0:1<=D)(d1:D<=12):
 Calls prog 99 #[UZ D] w λe w'=> ∃(a:UP) (c:Nat),e= .returned (.agg #[UZ D,I0,.slice a (mf D).left.length c])/\gZ.rel (λk=>w.heap.size<=k) w' [.slice a (mf D).left.length c] (mf D).left/\BW w w':=by
 have ad:=gY w (.cells #[I0,I0,S0] 104);have Y:=jc w (.cells #[I0,I0,S0] 104);obtain⟨j,ae⟩:=ik ad Y;have K:Hi ((w.alloc (.cells #[I0,I0,S0] 104)).heap.size=w.heap.size+1):=U4 ..;have ab:wrap64 ((D:Int)+1)=((D+1:Nat):Int):=by unfold wrap64;omega
 clear ad Y;go_in;go_upto_region 1 with(fail);generalize w.alloc (.cells #[I0,I0,S0] 104)=W at*
 have aq: ∀(o:Obj) (i:Nat),(W.alloc o).cell? ⟨w.heap.size,i,none⟩=(#[I0,I0,S0]:Array Value)[i]? :=λo=>(a' (iq (o':=o) j.o)).1;have q1: ∀(o:Obj) (i:Nat),(W.alloc o).frozen? ⟨w.heap.size,i,none⟩=false:=λo=>(a' (iq (o':=o) j.o)).2;go_wp2_with (at_make;refine n8 rfl _ _ rfl iX (z:= U0) UQ (n:=D+1) rfl rfl (by first|rfl|exact ab) (by first|rfl|exact ab) ?_ ?_ ?_)
 ·omega
 ·unfold maxLen;omega
 rw [Bf];have al:W.heap[w.heap.size]? =some (.cells #[I0,I0,S0] 104 (0,0)):=j.o;have aj:=iq (o':= .cells (ni [] (D+1)).toArray 24) al;have V:=j3 (old:= [I0,I0,S0]) aj [UZ D,I0,.slice (some ⟨W.heap.size,0,none⟩) (D+1) (D+1)] rfl;have u:=i2 (W.alloc (.cells (ni [] (D+1)).toArray 24)) (q:=w.heap.size) (S:=λk=>k≠w.heap.size) (λh=>h rfl) [UZ D,I0,.slice (some ⟨W.heap.size,0,none⟩) (D+1) (D+1)] 0
 have ai:Own ib W.heap.size 24 (λx=>False\/W.heap.size<=x) (W.alloc (.cells (ni [] (D+1)).toArray 24)) (.slice (some ⟨W.heap.size,0,none⟩) (List.replicate (D+1) (0:Int)).length (D+1)) (List.replicate (D+1) 0):=
  nr (cur:=ni [] (D+1)) (gY W _) (by simp [ni]) (by simp [ni]) (λx ao=>by rw [List.eq_of_mem_replicate ao];exact ir UN UN) US (by unfold maxLen;omega) (g9 _)
 have af:=Hd (jc W (.cells (ni [] (D+1)).toArray 24));generalize W.alloc (.cells (ni [] (D+1)).toArray 24)=U at*;obtain⟨G,y⟩: ∃G,G=U.setCells w.heap.size 0 [UZ D,I0,.slice (some ⟨W.heap.size,0,none⟩) (D+1) (D+1)]:=⟨_,rfl⟩;rw [<-y]at V u;simp only [World.setCells,Nat.reduceAdd,nC]at y;rw [<-y];obtain⟨ag, -⟩:=a' V;refine iQ (v:= .agg #[UZ D,I0,.slice (some ⟨W.heap.size,0,none⟩) (D+1) (D+1)]) (by simp [results,results99,go_sem,ag]) rfl ?_;have ak:(mf D).left.length=D+1:=by simp [mf]
 refine⟨some ⟨W.heap.size,0,none⟩,D+1,by rw [ak],?_,?_⟩
 ·have h1:=gZ.keep ai.slice (u.mono λk _ h=>by rcases h with h|h;exact h.elim;have:=K.o;show k≠_;omega)
  have e:(List.replicate (D+1) (0:Int)).length=(mf D).left.length:=(by simp [mf]);rw [e]at h1;exact gZ.mono h1 λk _ h=>by rcases h with h|h;exact h.elim;have:=K.o;show _<=_;omega
 ·have ah:Kept (λi=>i<w.heap.size) w U:=(Kept.of_below (S:=λi=>i<w.heap.size) ae.o).trans (Kept.of_below (S:=λi=>i<w.heap.size) af.o) λ_ _ h=>h
  have h1:Kept (λi=>i<w.heap.size) w G:=ah.trans u λi _ h=>(by have ap:i<w.heap.size:=h;show i≠_;omega);exact h1.below (g9 _)
end Go.Proofs.YtjdiofjjoefnhaaGreatDoor
