/- Bytes as elements, and their hash: some numbers, some hash. -/
import Derived.Laws.Cover3
import Derived.Test.YtjdiofjjoefnhaaGreatDoorMRel
set_option maxRecDepth 100000
set_option maxHeartbeats 8000000
namespace Go.Proofs.YtjdiofjjoefnhaaGreatDoor
open Tryz Go.ChangeShapes Go.WideShapes Go.ChangeAt Go.RowKit
theorem LB {a b:Int}(j:0<=a)(G:a<18446744073709551616)(u:0<=b)(K:b<18446744073709551616):0<=bits BinOp.or IntKind.u64 a b/\bits BinOp.or IntKind.u64 a b<18446744073709551616:=by
 obtain⟨A,rfl⟩:=lv j;obtain⟨B,rfl⟩:=lv u;have y:A<2^64:=UN
 have z:B<2^64:=UN
 rw [bits_or_u64_nat A B UN UN];have:=Nat.or_lt_two_pow y z;omega
theorem xh (x:Int):0<=IntKind.u64.wrap x/\IntKind.u64.wrap x<18446744073709551616:=by rw [jP];omega
def Ol (N:Nat)(w:World)(e:Ending)(w':World):Prop:= ∃(ys:List Int) (a:UP) (cap:Nat),ys.length<=N/\e= .returned (.slice a ys.length cap)/\gZ.rel (λ_=>True) w' [.slice a ys.length cap] ys/\BW w w'
theorem Jl (S:UO)(w:World)(a:UP)(cap:Nat)(xs:List Int)(h:hD.rel S w [.slice a xs.length cap] xs)(ad:xs.length<=100000):
 Calls prog 154 #[.slice a xs.length cap] w (Ol (xs.length+2) w):=by
 have H:=Hd h;have aA:=(g4.lens h).2;unfold maxLen at aA;clear h;go_in;go_wp2_with (at_make;refine m5 rfl _ _ rfl iX (n:=1) (m:=1+(xs.length+6) / 7) rfl rfl ?_ ?_ ?_ ?_ ?_ ?_)
 ·rfl
 ·omega
 ·omega
 ·omega
 ·unfold maxLen;omega
 intro cur ap w1 ai hb1 aQ;obtain⟨c0,rest,rfl⟩: ∃c0 rest,cur=c0::rest:=by
  cases cur with
  |nil=>exfalso;simp at ap;omega
  |cons c r=>exact⟨c,r,rfl⟩
 obtain⟨aT,aU⟩:=a' ai;have hw:IntKind.u64.wrap (xs.length:Int)=xs.length:=by rw [jP];omega
 have aq:=h6 (i:=0) (v:= U2 (xs.length:Int)) ai;have ar:(w1.setCell ⟨w.heap.size,0,none⟩ (U2 (xs.length:Int))).heap[w.heap.size]? =some (.cells ((U2 (xs.length:Int))::rest).toArray 24 (0,0)):=by simpa using aq
 have au:=nr (k:= .u64) (base:=w.heap.size) (xs:= [(xs.length:Int)]) ar ap US (by intro x aw;simp at aw;subst aw;exact ir UN UN) US (by unfold maxLen;omega) (g9 _);have hb2:BW w (w1.setCell ⟨w.heap.size,0,none⟩ (U2 (xs.length:Int))):=hb1.setCell (g9 _) _;obtain⟨ax,al⟩:=ik au hb2;clear au hb2 aq ar ai;go_wp2_with fail;generalize w1.setCell ⟨w.heap.size,0,none⟩ (U2 (xs.length:Int))=w2 at*
 go_loopw [3,4] (λaJ ak wr=> ∃(k:Nat) (u:List Int),k<=xs.length+7/\ak= UZ k/\u.length<=k+1/\(k<=xs.length->u.length<=k+1)/\7*u.length<=k+7/\Own ib w.heap.size 24 (λx=>False\/w.heap.size<=x) wr aJ u/\BW w wr/\w.heap.size<=wr.heap.size) (λ_ ak _=>xs.length+8-(intOf ak).toNat)
 case atStart=>exact⟨0,[(xs.length:Int)],UN,rfl,US,λ_=>US,US,by simpa using ax.o,al.o,al.o.size⟩
 case round=>
  obtain⟨k,u,aM,rfl,aN,aO,aP,y,U,av⟩:=hrel;by_cases hlt:k<xs.length
  ·have aH:0<xs.length:=UN
   obtain⟨b,off,rfl, -, -, -, -, -⟩:=bytes_at H.o 0 aH;by_cases aC:k+7<=xs.length
   ·have aD: ¬((xs.length:Int)<(k:Int)+7):=UN
    have ae:=Hd y;clear y;go_wp2_with fail;have aE:k+7<=xs.length:=aC;go_loop [6,37] (λaj z=> ∃(j:Nat) (n:Int),j<=7/\z= UZ j/\aj= U2 n/\0<=n/\n<18446744073709551616) (λ_ z=>7-(intOf z).toNat)
    case atStart=>exact⟨0,0,iy _,rfl,rfl,UN,UN⟩
    case round=>
     obtain⟨j,n,aF,rfl,rfl,ab,n1⟩:=hrel;by_cases aG:j<7
     ·obtain⟨az,aI,K, -, -,d0,d1,ah⟩:=bytes_at (hD.c' H.o U) (k+j) UN
      simp at K;obtain⟨rfl,rfl⟩:=K;rw [<-xG]at ah;generalize xs[k+j]=x at*;have V:=LB ab n1 (xh (x*2^(8*j))).1 (xh (x*2^(8*j))).2;have G:=Hd V;clear V;go_wp2_with fail;go_round
      case rel=>exact⟨j+1,_,UN,by go_num,rfl,G.o.1,G.o.2⟩
      case measure=>exact UY
     ·obtain rfl:j=7:=UN
      have af:Hi (ib.rel (λ_=>False) wr [n] n):=⟨rfl,ir ab n1⟩;go_wp2_with (at_builtin;refine km (r:=ib) (wr:=wr) (es:= [U2 n]) (v:=u3) (w0:=w) (B:=w.heap.size) rfl _ _ rfl iX rfl rfl U av ae.o af.o (λx ad=>ad.elim) (by unfold maxLen;omega) UN ?_)
      intro v2 aK Y hb3;have ag:=Hd (Own.mono Y (F':=λx=>False\/w.heap.size<=x) λx _ h=>by first|exact h|exact .inr h)
      clear Y;go_wp2;go_roundw
      case rel=>exact⟨k+7,u++ [n],UN,by go_num,by simp;omega,λ_=>by simp;omega,by simp;omega,ag.o,hb3,hb3.size⟩
      case measure=>exact UY
   ·have aD:(xs.length:Int)<(k:Int)+7:=UN
    have ae:=Hd y;clear y;go_wp2_with fail;obtain⟨M,ao⟩:=iF (xs.length-k);rw [ao];have aL:M<=7:=UN;have aE:k+M<=xs.length:=UN;clear ao;go_loop [6,37] (λaj z=> ∃(j:Nat) (n:Int),j<=M/\z= UZ j/\aj= U2 n/\0<=n/\n<18446744073709551616) (λ_ z=>M-(intOf z).toNat)
    case atStart=>exact⟨0,0,iy _,rfl,rfl,UN,UN⟩
    case round=>
     obtain⟨j,n,aF,rfl,rfl,ab,n1⟩:=hrel;by_cases aG:j<M
     ·obtain⟨az,aI,K, -, -,d0,d1,ah⟩:=bytes_at (hD.c' H.o U) (k+j) UN
      simp at K;obtain⟨rfl,rfl⟩:=K;rw [<-xG]at ah;generalize xs[k+j]=x at*;have V:=LB ab n1 (xh (x*2^(8*j))).1 (xh (x*2^(8*j))).2;have G:=Hd V;clear V;go_wp2_with fail;go_round
      case rel=>exact⟨j+1,_,UN,by go_num,rfl,G.o.1,G.o.2⟩
      case measure=>exact UY
     ·obtain rfl:j=M:=UN
      have af:Hi (ib.rel (λ_=>False) wr [n] n):=⟨rfl,ir ab n1⟩;go_wp2_with (at_builtin;refine km (r:=ib) (wr:=wr) (es:= [U2 n]) (v:=u3) (w0:=w) (B:=w.heap.size) rfl _ _ rfl iX rfl rfl U av ae.o af.o (λx ad=>ad.elim) (by unfold maxLen;omega) UN ?_)
      intro v2 aK Y hb3;have ag:=Hd (Own.mono Y (F':=λx=>False\/w.heap.size<=x) λx _ h=>by first|exact h|exact .inr h)
      clear Y;go_wp2;go_roundw
      case rel=>exact⟨k+7,u++ [n],UN,by go_num,by simp;omega,λ_=>by simp;omega,by simp;omega,ag.o,hb3,hb3.size⟩
      case measure=>exact UY
  ·obtain⟨a2,c2,rfl, -, -⟩:=g4.form y.slice
   have ay:=Hd (gZ.mono y.slice (S':=λ_=>True) λ_ _ _=>trivial);clear y;go_wp2;go_ret;exact⟨u,a2,c2,UN,rfl,ay.o,U⟩
def LT (w:World)(e:Ending)(w':World):Prop:= ∃x:Int,e= .returned (U2 x)/\0<=x/\x<18446744069414584321/\BW w w'
theorem zD (S:UO)(w:World)(label:Int)(l0:0<=label)(a:UP)(cap:Nat)(xs:List Int)(h:hD.rel S w [.slice a xs.length cap] xs)(y:xs.length<=100000):
 Calls prog 107 #[label,.slice a xs.length cap] w (LT w):=by
 go_in;go_wp2_with fail;refine(Jl S w a cap xs h y).mono ?_;rintro e w1⟨ys,u,c1,z,rfl,hr,hb1⟩;go_wp2_with fail;refine UR (oQ label l0 (λ_=>True) w1 u c1 ys hr UN) λw2 hb2=> ?_;have j:=nX label ys;generalize iD label ys=x at*;go_wp2;go_ret;exact⟨x,rfl,j.1,j.2,d' hb1 hb2⟩
theorem Gh (a:UP)(l c:Nat)(w:World):(binOp .eql 55 (.slice a l c) S0).run prog w= .ok (.bool a.isNone) w:=by
 simp only [binOp];simp [run_equal_slice_nil w 55 24 a l c underlying55]
theorem Hu (S:UO)(w:World)(a:UP)(cap:Nat)(l:List Int)(h:gZ.rel S w [.slice a l.length cap] l)(af:l.length<=1000000):
 Calls prog 83 #[.slice a l.length cap] w (lP ib (λk=>w.heap.size<=k) l w):=by
 have ad:=Gh
 cases a with
 |none=>
  have V:l= []:=by
   cases l with
   |nil=>rfl
   |cons x xs=>obtain⟨b,off,h1, -⟩:=il h 0 US;cases h1
  subst V;go_wp2;go_ret;exact⟨none,0,rfl,g4.nil,g' _ _⟩
 |some ab=>
  have j:=jc w (.cells #[] 24);have u:=Hd (Own.empty ib w.heap.size 24 (gY w (.cells #[] 24)) (g9 _));have K:=Hd (Src.plain (S':=λ_=>False) (Plain.int .u64) (Src.of_slice (gZ.c' h j)));have z:=Hd j;clear h j;go_in;go_wp2_with (at_builtin;refine iC (r:=ib) (base:=w.heap.size) rfl _ _ rfl iX rfl rfl u.o K.o (λ_ _ h=>h.elim) (λ_ _ h=>h) (by unfold maxLen;simp;omega) (by simp;omega) (by rw [U4];omega) ?_)
  intro ag Y y U _;have hb3:BW w Y:=Kept.behind z.o U (by rw [U4];omega) λk ae h=>by have:=(u.o.lt h).2.2;omega
  have G:=Hd (lP.mk (gZ.mono y.slice (S':=λk=>w.heap.size<=k) λk _ h=>by rcases h with h|h<;>omega) hb3)
  clear y;go_wp2;go_ret;exact G.o
def z5 (N:Nat)(w:World)(e:Ending)(w':World):Prop:= ∃(ys:List Int) (a:UP) (cap:Nat),ys.length<=N/\e= .returned (.slice a ys.length cap)/\hD.rel (λ_=>True) w' [.slice a ys.length cap] ys/\BW w w'
theorem lP.FC {ys:List Int}{N:Nat}{w w':World}{e:Ending}(h:t0 ys w e w')(u:ys.length<=N):z5 N w e w':=by
 obtain⟨a,cap,h1,h2,j⟩:=h;exact⟨ys,a,cap,u,h1,h2,j⟩
theorem uv (N:Nat)(w:World)(a:UP)(cap:Nat)(xs:List Int)(h:hD.rel (λ_=>True) w [.slice a xs.length cap] xs)(y:xs.length<=N)(u:N<=100000)(n:Int)(j:iZ n):
 Calls prog 46 #[.slice a xs.length cap,n] w (z5 (N+8) w):=
 (yq _ w a cap xs h n (iE j).1 (iE j).2 UN).mono λ_ _ h=>lP.FC h (by rw [U3,hA];omega)
theorem NS (N:Nat)(w:World)(a:UP)(cap:Nat)(xs:List Int)(h:hD.rel (λ_=>True) w [.slice a xs.length cap] xs)(y:xs.length<=N)(u:N<=100000)(n:Nat)(j:n<=4294967295):
 Calls prog 43 #[.slice a xs.length cap,UZ n] w (z5 (N+4) w):=
 (Bq _ w a cap xs h n j UN).mono λ_ _ h=>lP.FC h (by rw [U3,hA];omega)
theorem LY (N M:Nat)(S':UO)(w:World)(a:UP)(cap:Nat)(xs:List Int)(h:hD.rel (λ_=>True) w [.slice a xs.length cap] xs)(G:xs.length<=N)(z:N<=100000)(la:UP)(lc:Nat)(l:List Int)(j:gZ.rel S' w [.slice la l.length lc] l)(u:l.length<=M)(y:M<=100):
 Calls prog 44 #[.slice a xs.length cap,.slice la l.length lc] w (z5 (N+4+8*M) w):=
 (yr _ S' w a cap xs h la lc l j UN UN).mono λ_ _ h=>lP.FC h (by simp only [U3,hA,jV];omega)
theorem MU (N:Nat)(w:World)(a:UP)(cap:Nat)(xs:List Int)(h:hD.rel (λ_=>True) w [.slice a xs.length cap] xs)(u:xs.length<=N)(j:N<=100000):
 Calls prog 268 #[.slice a xs.length cap,S0] w (z5 (N+4) w):=
 (AO _ (λ_=>True) w a cap xs h none 0 [] g4.nil UN US).mono λ_ _ h=>lP.FC h (by simp [hA];omega)
theorem ke {t:jO}(h:hF t=0):t.marks.length<=4/\t.outs.length<=4/\(∀o∈t.outs,o.ha.length=3)/\0<=t.exp/\t.exp<=1048576/\t.proof.length<=1048576:=by
 unfold hF at h;split at h
 ·rename_i j
  split at h
  ·rename_i z
   unfold k5 lL oh at j;simp only [kg,jk]at j;obtain⟨h1,h2, -,u⟩:=j;refine⟨h1.1,h2.1,λo y=> ?_,u.2.1,u.2.2,z⟩;have:=TJ.1 h2.2 o y;unfold tA at this;simp only [kg,jk]at this;exact this.2.2.1
  ·simp at h
 ·simp at h
theorem Fg (S:UO)(w:World)(t:jO)(ma oa pa:UP)(mc oc pc:Nat)(h:ks S w t ma oa pa mc oc pc)(au:hF t=0):
 Calls prog 178 #[.agg #[t.g5,.slice ma t.marks.length mc,.slice oa t.outs.length oc,t.iK,t.wd,t.jn,t.acc,t.e',UZ t.exp,.slice pa t.proof.length pc],S0] w (z5 2000 w):=by
 obtain⟨f1,bX,ae,a3,bY,bZ⟩:=ke au;have K:=jc w (.cells #[t.g5,.slice ma t.marks.length mc,.slice oa t.outs.length oc,t.iK,t.wd,t.jn,t.acc,t.e',UZ t.exp,.slice pa t.proof.length pc] 87);obtain⟨y,H,av,ax⟩:=oX (gY w (.cells #[t.g5,.slice ma t.marks.length mc,.slice oa t.outs.length oc,t.iK,t.wd,t.jn,t.acc,t.e',UZ t.exp,.slice pa t.proof.length pc] 87)) (h.c' K) K ae;clear K h au ae;go_in;go_wp2_with fail;generalize w.alloc (.cells #[t.g5,.slice ma t.marks.length mc,.slice oa t.outs.length oc,t.iK,t.wd,t.jn,t.acc,t.e',UZ t.exp,.slice pa t.proof.length pc] 87)=W at*
 refine(uv 0 W none 0 [] g4.nil (g9 _) UN t.g5 H.o.g5).mono ?_;rintro e w1⟨bJ,az,c1,l1,rfl,h1,hb1⟩;obtain⟨j,u⟩:=a' (b' hb1 y.o);go_wp2_with fail;refine(LY 8 4 S w1 az c1 bJ h1 UN UN ma mc t.marks (gZ.c' H.o.marks hb1) UN UN).mono ?_;rintro e w2⟨bK,a2,c2,l2,rfl,h2,hb2⟩;have ap:=d' hb1 hb2;clear j u;obtain⟨j,u⟩:=a' (b' ap y.o);go_wp2_with fail;refine(NS 44 w2 a2 c2 bK h2 UN UN t.outs.length UN).mono ?_;rintro e cg⟨bL,aA,aN,l3,rfl,be,hb3⟩;have aq:=d' ap hb3;clear j u;obtain⟨j,u⟩:=a' (b' aq y.o);go_wp2;go_loopw [5,23] (λbE ad wr=> ∃(k:Nat) (ys:List Int) (a:UP) (c:Nat),k<=t.outs.length/\ad= UZ k/\bE= .slice a ys.length c/\ys.length<=48+52*k/\hD.rel (λ_=>True) wr [.slice a ys.length c] ys/\BW W wr) (λ_ ad _=>t.outs.length-(intOf ad).toNat)
 case atStart=>exact⟨0,bL,aA,aN,iy _,rfl,rfl,UN,be,aq⟩
 case round=>
  obtain⟨k,ys,a,c,b1,rfl,rfl,bx,ab,z⟩:=hrel;clear j u;by_cases hlt:k<t.outs.length
  ·obtain⟨b,off,ca,cc,rfl, -,b0,o1,o2,o3,ag,c0,aL,aM,aO⟩:=mp (mK.c' H.o.outs z) k hlt
   have V:=Hd (ax.o t.outs[k] (z3 hlt));generalize t.outs[k]=o at*;have U:=jc wr (.cells #[o.g6,o.p0,o.p1,.slice ca o.ha.length cc] 156);have ah:=gY wr (.cells #[o.g6,o.p0,o.p1,.slice ca o.ha.length cc] 156);have aw:=Hd (gZ.c' ag U);have bm:=d' z U;obtain⟨G,ay⟩:=ik ah (hD.c' ab U);clear ag ah ab;go_wp2_with fail;generalize wr.alloc (.cells #[o.g6,o.p0,o.p1,.slice ca o.ha.length cc] 156)=bI at*;clear c0 aL aM aO;refine(uv (48+52*k) bI a c ys ay.o bx UN o.g6 o1).mono ?_;rintro e bF⟨bM,aC,aP,bz,rfl,bf,af⟩;obtain⟨j,u⟩:=a' (b' af G.o);go_wp2_with fail;refine(uv (48+52*k+8) bF aC aP bM bf bz UN o.p0 o2).mono ?_;rintro e bG⟨bN,aD,aQ,b4,rfl,bg,hb5⟩;have ar:=d' af hb5;clear j u;obtain⟨j,u⟩:=a' (b' ar G.o);go_wp2_with fail;refine(uv (48+52*k+16) bG aD aQ bN bg UN UN o.p1 o3).mono ?_;rintro e bH⟨bO,aE,aT,b5,rfl,bh,bj⟩;have Y:=d' ar bj;clear j u;obtain⟨j,u⟩:=a' (b' Y G.o);go_wp2_with fail;refine(LY (48+52*k+24) 3 S bH aE aT bO bh UN UN ca cc o.ha (gZ.c' aw.o Y) (by have:=V.o;omega) UN).mono ?_;rintro e ch⟨bP,aF,aU,b6,rfl,bi,bk⟩;go_wp2;go_roundw
   case rel=>exact⟨k+1,bP,aF,aU,UN,by go_num,rfl,UN,bi,d' bm (d' Y bk)⟩
   case measure=>exact UY
  ·obtain rfl:k=t.outs.length:=UN
   obtain⟨j,u⟩:=a' (b' z y.o);go_wp2_with fail;refine(uv 300 wr a c ys ab UN UN t.iK H.o.iK).mono ?_;rintro e v1⟨bQ,aG,d1,m1,rfl,a4,bn⟩;have ai:=d' z bn;clear j u;obtain⟨j,u⟩:=a' (b' ai y.o);go_wp2_with fail;refine(uv 308 v1 aG d1 bQ a4 UN UN t.wd H.o.wd).mono ?_;rintro e v2⟨bR,b2,aV,m2,rfl,a5,bo⟩;have aj:=d' ai bo;clear j u;obtain⟨j,u⟩:=a' (b' aj y.o);go_wp2_with fail;refine(uv 316 v2 b2 aV bR a5 UN UN t.jn H.o.jn).mono ?_;rintro e bA⟨bS,b3,aW,b7,rfl,a6,V⟩;have ak:=d' aj V;clear j u;obtain⟨j,u⟩:=a' (b' ak y.o);go_wp2_with fail;refine(uv 324 bA b3 aW bS a6 UN UN t.acc H.o.acc).mono ?_;rintro e bB⟨bT,aH,aX,b8,rfl,a7,bp⟩;have al:=d' ak bp;clear j u;obtain⟨j,u⟩:=a' (b' al y.o);go_wp2_with fail;refine(uv 332 bB aH aX bT a7 UN UN t.e' H.o.e').mono ?_;rintro e bC⟨bU,aI,aY,b9,rfl,a8,bq⟩;have ao:=d' al bq;clear j u;obtain⟨j,u⟩:=a' (b' ao y.o);obtain⟨a1,bv⟩:=lv a3;rw [bv]at j;go_wp2_with fail;refine(NS 340 bC aI aY bU a8 UN UN a1 UN).mono ?_;rintro e bD⟨bV,aJ,aZ,cd,rfl,a9,br⟩;have bw:=d' ao br;go_wp2_with fail;refine(MU 344 bD aJ aZ bV a9 UN UN).mono ?_;rintro e cf⟨bW,aK,a0,ce,rfl,bb,bt⟩;go_wp2;go_ret;exact⟨bW,aK,a0,UN,rfl,bb,d' av.o (d' bw bt)⟩
theorem JP (S:UO)(w:World)(t:jO)(ma oa pa:UP)(mc oc pc:Nat)(h:ks S w t ma oa pa mc oc pc)(y:hF t=0):
 Calls prog 119 #[.agg #[t.g5,.slice ma t.marks.length mc,.slice oa t.outs.length oc,t.iK,t.wd,t.jn,t.acc,t.e',UZ t.exp,.slice pa t.proof.length pc]] w (LT w):=by
 have j:=jc w (.cells #[t.g5,.slice ma t.marks.length mc,.slice oa t.outs.length oc,t.iK,t.wd,t.jn,t.acc,t.e',UZ t.exp,.slice pa t.proof.length pc] 87);obtain⟨G,H,z,u⟩:=oX (gY w (.cells #[t.g5,.slice ma t.marks.length mc,.slice oa t.outs.length oc,t.iK,t.wd,t.jn,t.acc,t.e',UZ t.exp,.slice pa t.proof.length pc] 87)) (h.c' j) j y;clear j h y;go_in;go_wp2_with fail;refine UR (m3 S _ t ma oa pa mc oc pc H.o) λw1 hb1=> ?_;rw [u.o];obtain⟨Y,ab⟩:=a' (b' hb1 G.o);go_wp2_with fail;refine(Fg S w1 t ma oa pa mc oc pc (H.o.c' hb1) u.o).mono ?_;rintro e w2⟨ys,a2,c2,U,rfl,hr,hb2⟩;go_wp2_with fail;refine(zD _ w2 13 UN a2 c2 ys hr UN).mono ?_;rintro e V⟨x,rfl,K,q1,hb3⟩;go_wp2;go_ret;exact⟨x,rfl,K,q1,d' (d' (d' z.o hb1) hb2) hb3⟩
theorem Bs (S:UO)(w:World)(t:jO)(ma oa pa:UP)(mc oc pc:Nat)(h:ks S w t ma oa pa mc oc pc)(u:hF t=0):
 Calls prog 120 #[.agg #[t.g5,.slice ma t.marks.length mc,.slice oa t.outs.length oc,t.iK,t.wd,t.jn,t.acc,t.e',UZ t.exp,.slice pa t.proof.length pc]] w (Rt w (U2 (kn t.marks t.acc t.e'))):=by
 have j:=jc w (.cells #[t.g5,.slice ma t.marks.length mc,.slice oa t.outs.length oc,t.iK,t.wd,t.jn,t.acc,t.e',UZ t.exp,.slice pa t.proof.length pc] 87);obtain⟨G,H,y,z⟩:=oX (gY w (.cells #[t.g5,.slice ma t.marks.length mc,.slice oa t.outs.length oc,t.iK,t.wd,t.jn,t.acc,t.e',UZ t.exp,.slice pa t.proof.length pc] 87)) (h.c' j) j u;clear j h u;go_in;go_wp2_with fail;refine UR (m3 S _ t ma oa pa mc oc pc H.o) λw1 hb1=> ?_;rw [z.o];obtain⟨K,U⟩:=a' (b' hb1 G.o);go_wp2_with fail;refine UR (E2 S w1 ma mc t.marks (gZ.c' H.o.marks hb1) t.acc t.e' H.o.acc H.o.e') λw2 hb2=> ?_;go_wp2;go_ret;exact⟨rfl,d' (d' y.o hb1) hb2⟩
abbrev ze (A:Array Value)(w w':World):Prop:=
 BW w w'/\w.heap.size+1<w'.heap.size/\(∀o,w'.cell? ⟨w.heap.size,o,none⟩=A[o]?)/\
  w'.heap[w.heap.size]? =some (.cells A 87 (0,0))/\w'.heap[w.heap.size+1]? =some (.cells #[I0,U0,S0,S0,S0,U0,U0,U0,U0,U0] 141 (0,0))
theorem ze.of {A:Array Value}{w w':World}(h1:BW w w')(h2:w'.heap[w.heap.size]? =some (.cells A 87 (0,0)))(j:w'.heap[w.heap.size+1]? =some (.cells #[I0,U0,S0,S0,S0,U0,U0,U0,U0,U0] 141 (0,0))):ze A w w':=
 ⟨h1,ii j,(a' h2).1,h2,j⟩
theorem ze.drew {A:Array Value}{w w':World}(h:ze A w w'):ze A w w'.drew:=⟨h.1.drew,h.2.1,h.2.2.1,h.2.2.2.1,h.2.2.2.2⟩
theorem ze.next {A:Array Value}{w w1 w2:World}(h:ze A w w1)(j:BW w1 w2):ze A w w2:=ze.of (d' h.1 j) (b' j h.2.2.2.1) (b' j h.2.2.2.2)
theorem ze.alloc {A:Array Value}{w w1:World}(h:ze A w w1)(o:Obj):ze A w (w1.alloc o):=h.next (hd (g' _ _) o)
theorem ze.kept {A:Array Value}{w w1 w2:World}(h:ze A w w1)(j:Kept (λk=>k<=w.heap.size+1) w1 w2):ze A w w2:=
 ze.of (Kept.behind h.1 j h.1.size (λk j=>UN)) (hE j h.2.2.2.1 UN) (hE j h.2.2.2.2 UN)
theorem i2 (w:World){q:Nat}{S:UO}(u: ¬S q): ∀(j:List Value) (o:Nat),Kept S w (w.setCells q o j)
 | [],_=>Kept.refl _ _
 |v::j,o=>by
  rw [World.setCells];have h1:Kept S w (w.setCell ⟨q,o,none⟩ v):=(Kept.refl _ _).setCell (λ_=>u) _;have h2:=i2 (w.setCell ⟨q,o,none⟩ v) u j (o+1);exact h1.trans h2 λ_ _ h=>h
theorem Own.tight {k:IntKind}{base:Nat}{e:TypeId}{F:UO}{w:World}{v:Value}{xs:List Int}(h:Own (j9 k) base e F w v xs):Own (j9 k) base e (λx=>v.ownBlock=some x) w v xs:=by
 obtain⟨S,css,K,U,y,hr,z⟩:=h;exact⟨λ_=>False,css,λ_ h=>h.elim,λk u=>⟨λh=>h,u⟩,y,λi cs x j G=>Plain.int k (hr i cs x j G),z⟩
def lk (o:Int):Nat->List Int
 |0=> []
 |k+1=>lk o k++ [nj o k]
theorem nA (o:Int): ∀k,(lk o k).length=k
 |0=>rfl
 |k+1=>by simp [lk,nA o k]
def mO (D:Nat)(t:jO)(bd:Int):zK:=⟨D,t.g5,t.marks,t.outs.map (·.g6),lk (kn t.marks t.acc t.e') t.outs.length,t.iK,t.wd,t.jn,t.acc,bd⟩
def LS (D:Nat)(t:jO)(w:World)(e:Ending)(w':World):Prop:=
 ∃bd ma ca ra mc cc rc,0<=bd/\bd<18446744069414584321/\e= .returned (.agg #[.int .i64 D,.int .u64 t.g5,.slice ma t.marks.length mc,.slice ca t.outs.length cc,.slice ra t.outs.length rc,.int .u64 t.iK,.int .u64 t.wd,.int .u64 t.jn,.int .u64 t.acc,.int .u64 bd])/\
  vn (λ_=>True) w' (mO D t bd) ma ca ra mc cc rc/\BW w w'
structure uk (D:Nat)(t:jO)(A:Array Value)(w:World)(q C:Nat)(am:UP)(cm:Nat)(bd:Int)(v1 v2:Value)(wr:World):Prop where
 AP:ze A w wr
 box:wr.heap[q]? =some (.cells #[.int .i64 D,.int .u64 t.g5,.slice am t.marks.length cm,v1,v2,.int .u64 t.iK,.int .u64 t.wd,.int .u64 t.jn,.int .u64 t.acc,.int .u64 bd] 141 (0,0))
 marks:gZ.rel (λk=>(w.heap.size+1<k/\k≠q)/\k<C) wr [.slice am t.marks.length cm] t.marks
 lay:w.heap.size+1<q
 qC:q<C
 base:C<=wr.heap.size
theorem uk.kept {D:Nat}{t:jO}{A:Array Value}{w:World}{q C:Nat}{am:UP}{cm:Nat}{bd:Int}{v1 v2:Value}{wr w2:World}(h:uk D t A w q C am cm bd v1 v2 wr)(j:Kept (λk=>k<C) wr w2):uk D t A w q C am cm bd v1 v2 w2:=
 have:=h.lay;have:=h.qC
 ⟨h.AP.kept (j.mono λk _ h=>UN),hE j h.box h.qC,gZ.keep h.marks (j.mono λk _ h=>h.2),h.lay,h.qC,iu h.base j.size⟩
theorem uk.c' {D:Nat}{t:jO}{A:Array Value}{w:World}{q C:Nat}{am:UP}{cm:Nat}{bd:Int}{v1 v2:Value}{wr w2:World}(h:uk D t A w q C am cm bd v1 v2 wr)(j:BW wr w2):uk D t A w q C am cm bd v1 v2 w2:=h.kept (Kept.of_below j)
theorem uk.store {D:Nat} {t:jO} {A:Array Value} {w:World} {q C:Nat} {am:UP} {cm:Nat} {bd:Int} {v1 v2 u1 u2:Value} {wr:World} (h:uk D t A w q C am cm bd v1 v2 wr) (i:Nat) (v:Value)
 (u:(#[.int .i64 D,.int .u64 t.g5,.slice am t.marks.length cm,v1,v2,.int .u64 t.iK,.int .u64 t.wd,.int .u64 t.jn,.int .u64 t.acc,.int .u64 bd]:Array Value).setIfInBounds i v= #[.int .i64 D,.int .u64 t.g5,.slice am t.marks.length cm,u1,u2,.int .u64 t.iK,.int .u64 t.wd,.int .u64 t.jn,.int .u64 t.acc,.int .u64 bd]):uk D t A w q C am cm bd u1 u2 (wr.setCell ⟨q,i,none⟩ v):=
 have:=h.lay;have:=h.qC;have j:Kept (λk=>k≠q) wr (wr.setCell ⟨q,i,none⟩ v):=(Kept.refl _ _).setCell (λ_ h=>h rfl) _
 ⟨h.AP.kept (j.mono λk _ h=>UN),u▸h6 h.box,gZ.keep h.marks (j.mono λk _ h=>h.1.2),h.lay,h.qC,by rw [Ub];exact h.base⟩
theorem yD {S:UO}{w:World}{t:jO}{ma oa pa:UP}{mc oc pc:Nat}(h:ks S w t ma oa pa mc oc pc):iZ (kn t.marks t.acc t.e'):=by
 unfold kn;have j:iZ 0:=ir UN UN;split
 ·split
  ·exact uG _ _
  ·exact j
 ·rename_i z
  split
  ·have u:0<t.marks.length:=UN
   obtain⟨b,off, -, -,y,n1, -⟩:=il h.marks 0 u;rw [getD_at t.marks 0 0 u];exact ir y n1
  ·exact j
theorem F1 (o:Int)(i:Nat):iZ (nj o i):=by
 unfold nj;split
 ·exact uG _ _
 ·exact ir UN UN
theorem j3 {w:World}{q:Nat}{old:List Value}{e:TypeId}(h:w.heap[q]? =some (.cells old.toArray e (0,0)))(j:List Value)(u:j.length=old.length):(w.setCells q 0 j).heap[q]? =some (.cells j.toArray e (0,0)):=by
 rw [nu q e j 0 w old.toArray h (by simp;omega)];have:=kr w q old.toArray (old.toArray.toList.take 0++j++old.toArray.toList.drop (0+j.length)).toArray e (0,0) h;simpa [u]using this
abbrev xf (A:Array Value)(b:Nat)(w1 w':World):Prop:=BW w1 w'/\(∀o,w'.cell? ⟨b,o,none⟩=A[o]?)
theorem xf.of {A:Array Value}{b:Nat}{w1 w':World}(h:w1.heap[b]? =some (.cells A 87 (0,0)))(j:BW w1 w'):xf A b w1 w':=⟨j,(a' (b' j h)).1⟩
theorem xf.drew {A:Array Value}{b:Nat}{w1 w':World}(h:xf A b w1 w'):xf A b w1 w'.drew:=⟨h.1.drew,h.2⟩
theorem m4 {B:Nat}{w w1:World}(h:Below B w w1){q:Nat}(y:B<=q)(j:List Value)(o:Nat)(u:B<=w1.heap.size):Below B w (w1.setCells q o j):=
 Kept.behind h (i2 w1 (q:=q) (S:=λk=>k<B) UN j o) u λ_ h=>h
theorem Bt (w:World)(t:jO)(ma oa pa:UP)(mc oc pc:Nat)(h:ks (λk=>k<w.heap.size) w t ma oa pa mc oc pc)(a8:hF t=0)(D:Nat)(_hD:D<=12):
 Calls prog 76 #[.agg (jQ t ma mc oa oc pa pc),UZ D] w (LS D t w):=by
 obtain⟨f1,cB,cf,cC,cD,cE⟩:=ke a8;have bD:=jc w (.cells (jQ t ma mc oa oc pa pc) 87);have hb1:=hd bD (.cells #[I0,U0,S0,S0,S0,U0,U0,U0,U0,U0] 141);have aH:(w.alloc (.cells (jQ t ma mc oa oc pa pc) 87)).heap.size=w.heap.size+1:=U4 ..;have q2:=gY (w.alloc (.cells (jQ t ma mc oa oc pa pc) 87)) (.cells #[I0,U0,S0,S0,S0,U0,U0,U0,U0,U0] 141);rw [aH]at q2;have bM:ze (jQ t ma mc oa oc pa pc) w ((w.alloc (.cells (jQ t ma mc oa oc pa pc) 87)).alloc (.cells #[I0,U0,S0,S0,S0,U0,U0,U0,U0,U0] 141)):=ze.of hb1 (iq (gY w (.cells (jQ t ma mc oa oc pa pc) 87))) q2;obtain⟨H,aW,br⟩:=kT (h.c' hb1) a8 bM;have cH:=iE h.g5;clear bD hb1 aH q2 h a8 bM cf;go_in;go_wp2_with fail;generalize (w.alloc (.cells (jQ t ma mc oa oc pa pc) 87)).alloc (.cells #[I0,U0,S0,S0,S0,U0,U0,U0,U0,U0] 141)=W at*
 refine UR (m3 _ W t ma oa pa mc oc pc H.o) λw1 hb1=> ?_;rw [aW.o];obtain⟨U,ax⟩:=ik (br.o.next hb1) (H.o.c' hb1);clear br H hb1;go_wp2_with fail;go_cut [5]from 9 (λbN wc=> ∃q C am cm bd,bN= .pointer (some ⟨q,0,none⟩)/\0<=bd/\bd<18446744069414584321/\uk D t (jQ t ma mc oa oc pa pc) w q C am cm bd S0 S0 wc/\ks (λk=>k<w.heap.size) wc t ma oa pa mc oc pc)
 case first=>
  have a9:=U.o.2.1
  go_region_held3 (λw'=>BW w1 w'/\(∀o,w'.cell? ⟨w.heap.size,o,none⟩=((jQ t ma mc oa oc pa pc):Array Value)[o]?))
   (first
     |with_reducible exact xf.drew (xf.of U.o.2.2.2.1 (g' _ _))
     |with_reducible exact aV.o
     |with_reducible exact Y.o
     |with_reducible exact xf.of U.o.2.2.2.1 (hd Y.o.1 _)
     |with_reducible exact xf.of U.o.2.2.2.1 (hd aV.o.1 _)
     |with_reducible exact xf.drew (xf.of U.o.2.2.2.1 (hd (g' _ _) _))
     |exact xf.of U.o.2.2.2.1 (m4 Y.o.1 aO [UZ D,t.g5,.slice a2 t.marks.length c2,S0,S0,t.iK,t.wd,t.jn,t.acc,bd] 0 Y.o.1.size))
   (first
     |(go_at_call 83;have aC:=Hd (‹BW w1 _/\_› :xf (jQ t ma mc oa oc pa pc) w.heap.size w1 _);refine(Hu _ _ ma mc t.marks (gZ.c' ax.o.marks aC.o.1) UN).mono ?_;rintro e w2⟨a2,c2,rfl,bJ,bE⟩
       obtain⟨aV,HR2⟩:=ik (xf.of U.o.2.2.2.1 (d' aC.o.1 bE)) (gZ.bound bJ);clear bJ)
     |(go_at_call 119;have aC:=Hd (‹BW w1 _/\_› :xf (jQ t ma mc oa oc pa pc) w.heap.size w1 _);refine(JP _ _ t ma oa pa mc oc pc (ax.o.c' aC.o.1) aW.o).mono ?_;rintro e z⟨bd,rfl,ay,az,ab⟩
       have Y:=Hd (xf.of U.o.2.2.2.1 (d' aC.o.1 ab))
       first
        |(have av:z.heap[w1.heap.size]? =_:=b' ab (b' bE (gY w1 (.cells #[I0,U0,S0,S0,S0,U0,U0,U0,U0,U0] 141)));obtain⟨k0,k1⟩:=a' av;have HQ:=Hd av;clear av;obtain⟨bb,bI⟩: ∃bb,bb=w1.heap.size:=⟨_,rfl⟩;have aO:w1.heap.size<=bb:=Nat.le_of_eq bI.symm;subst bI)
        |(have av:z.heap[w2.heap.size]? =_:=b' ab (gY w2 (.cells #[I0,U0,S0,S0,S0,U0,U0,U0,U0,U0] 141));obtain⟨k0,k1⟩:=a' av;have HQ:=Hd av;clear av;have aO:w1.heap.size<=w2.heap.size:=aV.o.1.size)
        |have cw:=Y.o.1.size))
  ·have vP:=hd Y.o.1 (.cells #[UZ D,t.g5,.slice a2 t.marks.length c2,S0,S0,t.iK,t.wd,t.jn,t.acc,bd] 141)
   have aj:gZ.rel (λk=>(w.heap.size+1<k/\k≠z.heap.size)/\k<z.heap.size+1) (z.alloc (.cells #[UZ D,t.g5,.slice a2 t.marks.length c2,S0,S0,t.iK,t.wd,t.jn,t.acc,bd] 141)) [.slice a2 t.marks.length c2] t.marks:=
    gZ.mono (gZ.c' (gZ.c' HR2.o ab) (hd (g' _ _) _)) λk _ h=>by have:=ab.size;have h2:w1.heap.size<=k:=h.1;have:=h.2;omega
   have aD:Hi (uk D t (jQ t ma mc oa oc pa pc) w z.heap.size (z.heap.size+1) a2 c2 bd S0 S0 (z.alloc (.cells #[UZ D,t.g5,.slice a2 t.marks.length c2,S0,S0,t.iK,t.wd,t.jn,t.acc,bd] 141))):=
    ⟨U.o.next vP,gY _ _,aj,jg a9 cw,pb _,by rw [U4];exact g9 _⟩
   have G:=Hd (ax.o.c' vP);clear vP aj;go_wp2;go_meet
   case rel=>exact⟨z.heap.size,z.heap.size+1,a2,c2,bd,rfl,ay,az,aD.o,G.o⟩
  ·have a6:=ii HQ.o
   have vP:=m4 Y.o.1 (q:=w2.heap.size) aO [UZ D,t.g5,.slice a2 t.marks.length c2,S0,S0,t.iK,t.wd,t.jn,t.acc,bd] 0 Y.o.1.size;have ar:=i2 z (q:=w2.heap.size) (S:=λk=>k≠w2.heap.size) (λh=>h rfl) [UZ D,t.g5,.slice a2 t.marks.length c2,S0,S0,t.iK,t.wd,t.jn,t.acc,bd] 0;have aj:gZ.rel (λk=>(w.heap.size+1<k/\k≠w2.heap.size)/\k<z.heap.size) z [.slice a2 t.marks.length c2] t.marks:=gZ.mono (gZ.c' (gZ.c' HR2.o (hd (g' _ _) _)) ab) λk _ h=>by have:=ab.size;rw [U4]at this;have h2:w1.heap.size<=k:=h.1;have:=h.2;omega
   have ap:uk D t (jQ t ma mc oa oc pa pc) w w2.heap.size z.heap.size a2 c2 bd S0 S0 (z.setCells w2.heap.size 0 [UZ D,t.g5,.slice a2 t.marks.length c2,S0,S0,t.iK,t.wd,t.jn,t.acc,bd]):=
    ⟨U.o.next vP,j3 HQ.o _ rfl,gZ.keep aj (ar.mono λk _ h=>h.1.2),jg a9 aO,a6,ar.size⟩
   have aq:=ax.o.c' vP;simp only [World.setCells,Nat.reduceAdd,nC]at ap aq;obtain⟨aD,G⟩:=ik ap aq;clear vP ar aj ap aq;go_wp2;go_meet
   case rel=>exact⟨w2.heap.size,z.heap.size,a2,c2,bd,rfl,ay,az,aD.o,G.o⟩
  ·have a6:=ii HQ.o
   have vP:=m4 Y.o.1 (q:=w1.heap.size) (g9 _) [UZ D,t.g5,.slice a2 t.marks.length c2,S0,S0,t.iK,t.wd,t.jn,t.acc,bd] 0 Y.o.1.size;have ar:=i2 z (q:=w1.heap.size) (S:=λk=>k≠w1.heap.size) (λh=>h rfl) [UZ D,t.g5,.slice a2 t.marks.length c2,S0,S0,t.iK,t.wd,t.jn,t.acc,bd] 0;have aj:gZ.rel (λk=>(w.heap.size+1<k/\k≠w1.heap.size)/\k<z.heap.size) z [.slice a2 t.marks.length c2] t.marks:=gZ.mono (gZ.c' HR2.o ab) λk _ h=>by have h1:=ab.size;have h2:(w1.alloc (.cells #[I0,U0,S0,S0,S0,U0,U0,U0,U0,U0] 141)).heap.size<=k:=h.1;rw [U4]at h2;have:=h.2;omega
   have ap:uk D t (jQ t ma mc oa oc pa pc) w w1.heap.size z.heap.size a2 c2 bd S0 S0 (z.setCells w1.heap.size 0 [UZ D,t.g5,.slice a2 t.marks.length c2,S0,S0,t.iK,t.wd,t.jn,t.acc,bd]):=
    ⟨U.o.next vP,j3 HQ.o _ rfl,gZ.keep aj (ar.mono λk _ h=>h.1.2),jg a9 (g9 _),a6,ar.size⟩
   have aq:=ax.o.c' vP;simp only [World.setCells,Nat.reduceAdd,nC]at ap aq;obtain⟨aD,G⟩:=ik ap aq;clear vP ar aj ap aq;go_wp2;go_meet
   case rel=>exact⟨w1.heap.size,z.heap.size,a2,c2,bd,rfl,ay,az,aD.o,G.o⟩
 case rest=>
  obtain⟨q,C,am,cm,bd,rfl,ay,az,V,ak⟩:=hcut;have ae:=V.AP.2.2.1;obtain⟨af,G⟩:=ik V ak;clear V ak U ax;go_wp2_with fail;refine UR (Bs _ wc t ma oa pa mc oc pc G.o aW.o) λcN a0=> ?_;obtain⟨aU,bt⟩:=ik (af.o.c' a0) (G.o.c' a0);clear ae;have ae:=aU.o.AP.2.2.1;have bq:Hi (iZ (kn t.marks t.acc t.e')):=yD G.o;obtain⟨j,a5⟩:=iF (kn t.marks t.acc t.e');have bV:=Hd a5;rw [a5]at bq⊢;clear a5 af G a0;go_wp2_with fail;clear ae;go_loopw [35] (λbe wr=> ∃(k:Nat) (v1 v2:Value),k<=t.outs.length/\be= UZ k/\uk D t (jQ t ma mc oa oc pa pc) w q C am cm bd v1 v2 wr/\ks (λk=>k<w.heap.size) wr t ma oa pa mc oc pc/\Own ib C 24 (λx=>v1.ownBlock=some x) wr v1 ((t.outs.map (·.g6)).take k)/\Own ib C 24 (λx=>v2.ownBlock=some x) wr v2 (lk j k)/\(∀x,v1.ownBlock=some x->v2.ownBlock≠some x)) (λbe _=>t.outs.length-(intOf be).toNat)
  case atStart=>exact⟨0,S0,S0,iy _,rfl,aU.o,bt.o,by simpa using Own.nil _ _ _ _ _,Own.nil _ _ _ _ _,λx h=>by simp [Value.ownBlock]at h⟩
  case round=>
   obtain⟨k,v1,v2,cn,rfl,V,ak,au,aA,a1⟩:=hrel;clear aU bt;by_cases hlt:k<t.outs.length
   ·obtain⟨b,off,ca,cc,rfl, -,cG,o1,o2,o3,ck,c0,c1,c2,cz⟩:=mp ak.outs k hlt
    have bZ:Hi ((t.outs.map (·.g6)).take (k+1)=(t.outs.map (·.g6)).take k++ [t.outs[k].g6]):=Hd (by rw [z4 (by simpa using hlt)];simp);have aN:((t.outs.map (·.g6)).take k).length<=4:=(by simp;omega);have bm:=Hd aN;have bn:Hi ((lk j k).length<=4):=Hd (by rw [nA];omega);generalize (t.outs.map (·.g6)).take k=l1 at*;generalize t.outs[k]=o at*;clear ck aN;have aJ:=jc wr (.cells #[o.g6,o.p0,o.p1,.slice ca o.ha.length cc] 156);obtain⟨ao,b0,bo,bp,bU,bj⟩:=J1 (V.c' aJ) (ak.c' aJ) (au.c' aJ) (aA.c' aJ) (gY wr (.cells #[o.g6,o.p0,o.p1,.slice ca o.ha.length cc] 156)) a1;clear V ak au aA a1 aJ;obtain⟨ae,aK⟩:=a' ao.o.box;obtain⟨bQ,bR⟩:=a' bU.o;have a7:Src ib (λ_=>False) ((wr.alloc (.cells #[o.g6,o.p0,o.p1,.slice ca o.ha.length cc] 156)).alloc (.cells #[o.g6] 24)) (.slice (some ⟨(wr.alloc (.cells #[o.g6,o.p0,o.p1,.slice ca o.ha.length cc] 156)).heap.size,0,none⟩) 1 1) [o.g6]:=Src.one (r:=ib) (y:=o.g6) ⟨rfl,o1⟩ (jx.new (wr.alloc (.cells #[o.g6,o.p0,o.p1,.slice ca o.ha.length cc] 156)) [o.g6] 24);have aH:(wr.alloc (.cells #[o.g6,o.p0,o.p1,.slice ca o.ha.length cc] 156)).heap.size=wr.heap.size+1:=U4 ..;rw [aH]at a7;have bY:=Hd a7;clear a7 aH;have ch:C<=((wr.alloc (.cells #[o.g6,o.p0,o.p1,.slice ca o.ha.length cc] 156)).alloc (.cells #[o.g6] 24)).heap.size:=iu ao.o.base (hd (g' _ _) (.cells #[o.g6] 24)).size;go_wp2_with (at_builtin;go_loud (refine iC (r:=ib) (base:=C) (v:=v1) (u:= .slice (some ⟨wr.heap.size+1,0,none⟩) 1 1) (ys:= [o.g6]) (S:=λ_=>False) rfl _ _ rfl iX rfl rfl (Own.c' bo.o (hd (g' _ _) (.cells #[o.g6] 24))) bY.o (λ_ _ h=>h.elim) (λ_ _ h=>h) (by have:=bm.o;unfold maxLen;simp;omega) (by have:=bm.o;simp;omega) ch ?_))
    intro bN aQ a4 a3 bG;obtain⟨ag,ah,rfl, -, -⟩:=g4.form a4.slice;have ai:Kept (λk=>k<C) ((wr.alloc (.cells #[o.g6,o.p0,o.p1,.slice ca o.ha.length cc] 156)).alloc (.cells #[o.g6] 24)) aQ:=a3.mono λk _ ai K=>(by have:=(bo.o.lt K).2.2;omega);have bg:=Hd ((ao.o.c' (hd (g' _ _) (.cells #[o.g6] 24))).kept ai);have b7:=Hd ((b0.o.c' (hd (g' _ _) (.cells #[o.g6] 24))).keep (ai.mono λk _ h=>by have aI:k<w.heap.size:=h;have:=ao.o.lay;have:=ao.o.qC;omega));have bz:=Hd ((bp.o.c' (hd (g' _ _) (.cells #[o.g6] 24))).keep (a3.mono λk _ h K=>bj.o k K h));have bk:Hi (∀x,(Value.slice ag (l1++ [o.g6]).length ah).ownBlock=some x->v2.ownBlock≠some x):=λx aw K=>by
     rcases bG with h|h
     ·rw [h]at aw;exact bj.o x aw K
     ·rw [h]at aw
      have cJ:=jR aw;have h2:=(bp.o.lt K).1;rw [U4]at h2;omega
    have bv:=Hd (Own.tight a4);have cI:=ao.o.qC;have ad:Kept (λk=>k≠q) aQ (aQ.setCell ⟨q,3,none⟩ (.slice ag (l1++ [o.g6]).length ah)):=(Kept.refl _ _).setCell (λ_ h=>h rfl) _;have bh:=Hd (bg.o.store (u1:= .slice ag (l1++ [o.g6]).length ah) (u2:=v2) 3 (.slice ag (l1++ [o.g6]).length ah) rfl);have b8:=Hd (b7.o.keep (ad.mono λk _ h=>by have aI:k<w.heap.size:=h;have:=ao.o.lay;omega));have b4:=Hd (bv.o.keep (ad.mono λk _ h=>by have:=(bv.o.lt h).2.2;omega));have bA:=Hd (bz.o.keep (ad.mono λk _ h=>by have:=(bz.o.lt h).2.2;omega));clear ae aK bQ bR a3 ai bG a4 ad;obtain⟨ae,aK⟩:=a' bg.o.box;go_wp2_with fail;clear ae aK;generalize aZ:aQ.setCell ⟨q,3,none⟩ (.slice ag (l1++ [o.g6]).length ah)=bO at*
    have cq:(l1++ [o.g6]).length=l1.length+1:=US;rw [cq]at aZ;rw [aZ];clear aZ;obtain⟨ae,aK⟩:=a' bh.o.box;have cy:=Hd (show Own ib C 24 (λx=>v2.ownBlock=some x) bO.drew v2 (lk j k)from bA.o.c' (g' _ _).drew)
    go_region_law (first
     |(refine iV (r:=ib) (base:=C) (v:=v2) (u:= .slice (some ⟨aT.heap.size,0,none⟩) 1 1) (S:=λ_=>False) rfl _ _ rfl iX rfl rfl (Own.c' bB.o (hd (g' _ _) _)) (Src.one (r:=ib) (y:=nj j k) ⟨rfl,cv.o⟩ (jx.new aT [(nj j k)] 24)) (λ_ _ h=>h.elim) (λ_ _ h=>h) (by have:=bn.o;unfold maxLen;simp;omega) (by have:=bn.o;simp;omega) (iu al.o.base (by rw [U4];omega)) ?_
       intro cM bf bH bF cp;obtain⟨aF,aG,rfl, -, -⟩:=g4.form bH.slice;have ai:Kept (λk=>k<C) (aT.alloc (.cells #[(nj j k)] 24)) bf:=bF.mono λk _ ai K=>(by have:=(bB.o.lt K).2.2;omega);have bi:=Hd ((al.o.c' (hd (g' _ _) (.cells #[(nj j k)] 24))).kept ai);have cd:=Hd ((b9.o.c' (hd (g' _ _) (.cells #[(nj j k)] 24))).keep (ai.mono λk _ h=>by have aI:k<w.heap.size:=h;have:=al.o.lay;have:=al.o.qC;omega));have bx:=Hd ((bw.o.c' (hd (g' _ _) (.cells #[(nj j k)] 24))).keep (bF.mono λk _ h K=>bk.o k h K));have bC:=Hd (Own.tight bH);have bT:Hi (∀x,(Value.slice ag (l1++ [o.g6]).length ah).ownBlock=some x->(Value.slice aF (lk j k++ [nj j k]).length aG).ownBlock≠some x):=λx aw K=>by
        rcases cp with h|h
        ·rw [h]at K;exact bk.o x aw K
        ·rw [h]at K
         have cl:=jR K;have h2:=(bw.o.lt aw).1;rw [U4]at cl;omega
       obtain⟨cK,cL⟩:=a' bi.o.box)
     |(go_simp;go_at_call 121;refine UR (KC _ j k bq.o UN) λaT cj=> ?_
       have aM:BW bO aT:=d' (g' _ _).drew cj;obtain⟨al,b9,bw,bB,cv⟩:=zL (bh.o.c' aM) (b8.o.c' aM) (b4.o.c' aM) (bA.o.c' aM) (F1 j k);obtain⟨bQ,bR⟩:=a' al.o.box;have cO:=λo'=>(a' (iq (o':=o') al.o.box)).1))
    all_goals
     have ad:Kept (λk=>k≠q) bf (bf.setCell ⟨q,4,none⟩ (.slice aF (lk j k++ [nj j k]).length aG)):=(Kept.refl _ _).setCell (λ_ h=>h rfl) _;have bS:=Hd (bi.o.store (u1:= .slice ag (l1++ [o.g6]).length ah) (u2:= .slice aF (lk j k++ [nj j k]).length aG) 4 (.slice aF (lk j k++ [nj j k]).length aG) rfl);have ce:=Hd (cd.o.keep (ad.mono λk _ h=>by have aI:k<w.heap.size:=h;have:=al.o.lay;omega));have b5:=Hd (bx.o.keep (ad.mono λk _ h=>by have:=(bx.o.lt h).2.2;omega));have b6:=Hd (bC.o.keep (ad.mono λk _ h=>by have:=(bC.o.lt h).2.2;omega));clear ad;go_wp2;go_roundw
     case rel=>exact⟨k+1,.slice ag (l1++ [o.g6]).length ah,.slice aF (lk j k++ [nj j k]).length aG,UN,by go_num,by simpa using bS.o,by simpa using ce.o,by rw [bZ.o];simpa using b5.o,by simpa [lk]using b6.o,by simpa using bT.o⟩
     case measure=>exact UY
   ·obtain rfl:k=t.outs.length:=UN
    have cu:(t.outs.map (·.g6)).take t.outs.length=t.outs.map (·.g6):=TK US;rw [cu]at au;obtain⟨aE,c1,rfl, -, -⟩:=g4.form au.slice;obtain⟨a2,c2,rfl, -, -⟩:=g4.form aA.slice;have aN:(t.outs.map (·.g6)).length=t.outs.length:=TC ..;have co:(lk j t.outs.length).length=t.outs.length:=nA _ _;rw [aN]at V;rw [co]at V
    have bK:=gZ.mono au.slice (S':=λk=>C<=k) λk _ h=>(au.lt h).2.2;have bL:=gZ.mono aA.slice (S':=λk=>C<=k) λk _ h=>(aA.lt h).2.2;obtain⟨af,U,bX⟩:=kT V bK bL;obtain⟨ae,aK⟩:=a' V.box;obtain⟨f0,cA⟩:=a' V.AP.2.2.2.2;have aY:=(j3 (old:= [I0,U0,S0,S0,S0,U0,U0,U0,U0,U0]) V.AP.2.2.2.2 [UZ D,t.g5,.slice am t.marks.length cm,.slice aE t.outs.length c1,.slice a2 t.outs.length c2,t.iK,t.wd,t.jn,t.acc,bd] rfl);have aX:=(i2 wr (q:=w.heap.size+1) (S:=λk=>k≠w.heap.size+1) (λh=>h rfl) [UZ D,t.g5,.slice am t.marks.length cm,.slice aE t.outs.length c1,.slice a2 t.outs.length c2,t.iK,t.wd,t.jn,t.acc,bd] 0);obtain⟨bP,aP⟩: ∃bP,bP=wr.setCells (w.heap.size+1) 0 [UZ D,t.g5,.slice am t.marks.length cm,.slice aE t.outs.length c1,.slice a2 t.outs.length c2,t.iK,t.wd,t.jn,t.acc,bd]:=⟨_,rfl⟩;rw [<-aP]at aY aX;simp only [World.setCells,Nat.reduceAdd,nC]at aP;obtain⟨b1,bW,aL,G⟩:=oX aP aY aX ak;clear V au aA bK bL a1 aP aY aX ak;go_wp2_with fail;rw [<-b1.o];obtain⟨cg, -⟩:=a' bW.o;refine iQ (v:= .agg #[UZ D,t.g5,.slice am t.marks.length cm,.slice aE t.outs.length c1,.slice a2 t.outs.length c2,t.iK,t.wd,t.jn,t.acc,bd]) (by simp [results,results76,go_sem,cg]) rfl ?_;have cF:w.heap.size+1<C:=Nat.lt_trans af.o.lay af.o.qC;refine⟨bd,am,aE,a2,cm,c1,c2,ay,az,rfl,⟨G.o.g5,G.o.iK,G.o.wd,G.o.jn,G.o.acc,ir ay (Int.lt_trans az UN),?_,?_,?_⟩,?_⟩
    ·exact gZ.mono (gZ.keep af.o.marks (aL.o.mono λk _ h=>oi h.1.1)) λ_ _ _=>trivial
    ·exact gZ.mono (gZ.keep U.o (aL.o.mono λk _ h=>by have aI:C<=k:=h;omega)) λ_ _ _=>trivial
    ·have h2:=gZ.mono (gZ.keep bX.o (aL.o.mono λk _ h=>by have aI:C<=k:=h;omega)) (S':=λ_=>True) λ_ _ _=>trivial
     rw [<-bV.o]at h2;exact h2
    ·exact Kept.behind af.o.AP.1 aL.o af.o.AP.1.size λk cn=>by omega
theorem ks.bound {S:UO}{w:World}{t:jO}{ma oa pa:UP}{mc oc pc:Nat}(h:ks S w t ma oa pa mc oc pc):ks (λk=>k<w.heap.size) w t ma oa pa mc oc pc:=
 ⟨h.g5,h.iK,h.wd,h.jn,h.acc,h.e',h.exp,gZ.mono (gZ.bound h.marks) λ_ _ h=>h.2,mK.mono (mK.bound h.outs) λ_ _ h=>h.2,hD.mono (hD.bound h.proof) λ_ _ h=>h.2⟩
theorem zq (S:UO)(w:World)(t:jO)(ma oa pa:UP)(mc oc pc:Nat)(h:ks S w t ma oa pa mc oc pc)(u:hF t=0)(D:Nat)(j:D<=12):
 Calls prog 76 #[.agg (jQ t ma mc oa oc pa pc),UZ D] w (LS D t w):=Bt w t ma oa pa mc oc pc h.bound u D j
def p8 (D:Nat)(s:zK)(proof:List Int):Bool:=
 match nt proof with
 |none=>false
 |some t=>lU D s t==0
theorem GR (D:Nat)(t:jO)(bd:Int)(j:bd<18446744069414584321)(x:po):lU D (mO D t bd) x=lU D (mO D t 0) x:=by
 have y:j2 D (mO D t bd) x=j2 D (mO D t 0) x:=by
  have u:h' [(mO D t bd).g5,(mO D t bd).acc,(mO D t bd).bind,x.hU]=h' [(mO D t 0).g5,(mO D t 0).acc,(mO D t 0).bind,x.hU]:=by
   simp [h',jv,jC,mO,j]
  unfold j2;rw [u];rfl
 unfold lU;rw [y];rfl
theorem AN (D:Nat)(t:jO)(bd:Int)(j:bd<18446744069414584321)(proof:List Int):p8 D (mO D t bd) proof=p8 D (mO D t 0) proof:=by
 unfold p8;split
 ·rfl
 ·rw [GR D t bd j]
theorem zH (S S':UO)(w:World)(p:Nat)(st:Int)(ae:r' false st p w)(m:Int)(ar:m=2)(D:Nat)(bl bu qu iz win fin work:Int)(s:zK)(ma ca ra:UP)(mc cc rc:Nat)(ag:vn S w s ma ca ra mc cc rc)(pa:UP)(pc:Nat)(proof:List Int)(af:hD.rel S' w [.slice pa proof.length pc] proof)(au:proof.length<=1000000)(ap:1<=D)(aq:D<=12):
 Calls prog 75 #[.pointer (some ⟨p,0,none⟩),.agg (qs m D bl bu qu iz win fin work),.agg (qr D s ma mc ca cc ra rc),.slice pa proof.length pc] w (Rt w (.bool (p8 D s proof))):=by
 subst ar;have V:=jc w (.cells (qs 2 D bl bu qu iz win fin work) 26);have j:=hd V (.cells (qr D s ma mc ca cc ra rc) 141);have qB:=gY (w.alloc (.cells (qs 2 D bl bu qu iz win fin work) 26)) (.cells (qr D s ma mc ca cc ra rc) 141);have U:(w.alloc (.cells (qs 2 D bl bu qu iz win fin work) 26)).heap.size=w.heap.size+1:=U4 ..;rw [U]at qB;obtain⟨ak,aj,ai,ah,K⟩:=zL (ag.c' j) (hD.c' af j) (ae.c' j) qB j;clear V j qB U ag af ae;go_in;go_wp2_with fail;generalize (w.alloc (.cells (qs 2 D bl bu qu iz win fin work) 26)).alloc (.cells (qr D s ma mc ca cc ra rc) 141)=W at*
 refine(Fi W pa pc proof S' aj.o au).mono ?_;intro e w1 ab;unfold A9 at ab;have z:Hi (p8 D s proof=match nt proof with|none=>false|some t=>lU D s t==0):=rfl
 revert ab
 cases ad:nt proof with
 |none=>
  rintro⟨rfl,hb1⟩;have y:Hi (p8 D s proof=false):=Hd (by rw [z.o,ad]);go_wp2;go_ret;exact⟨g8 y.o.symm,d' K.o (hb1.new _)⟩
 |some t=>
  rintro⟨G,c1,a2,c2,rfl,h1,h2,ao,hb1⟩;have y:Hi (p8 D s proof=(lU D s t==0)):=Hd (by rw [z.o,ad]);have Y:=jc w1 (.cells #[.slice G t.ins.length c1,.slice a2 t.outs.length c2,t.hU] 197);have u:=d' hb1 Y;have al:Hi (p9 (λ_=>True) w1 t G a2 c1 c2):=⟨h1,h2,ao⟩;obtain⟨av,aw⟩:=a' (b' u ah.o);clear h1 h2 z;go_wp2_with fail;refine UR (Bx S (λ_=>True) _ p st (ai.o.c' u) D s ma ca ra mc cc rc (ak.o.c' u) t G a2 c1 c2 (al.o.c' Y) ap aq) λw2 hb2=> ?_;generalize lU D s t=r at*;go_wp2;go_ret;exact⟨g8 y.o.symm,d' K.o (d' u hb2)⟩
def kF (d bl bu qu iz win fin work:Int)(t:jO):Int:=
 if jK 2 d bl bu qu iz win fin work=0 then (if hF t=0 then (if p8 d.toNat (mO d.toNat t 0) t.proof=true then 0 else 10)else hF t)else jK 2 d bl bu qu iz win fin work
theorem uN {m d bl bu qu iz win fin work:Int}(h:jK m d bl bu qu iz win fin work=0):1<=d/\d<=12:=by
 unfold jK at h;split at h
 ·rename_i j
  unfold xO at j;rw [jk]at j;omega
 ·simp at h
abbrev Kb (A X:Array Value)(b:Nat)(w1 w':World):Prop:=BW w1 w'/\(∀o,w'.cell? ⟨b,o,none⟩=A[o]?)/\(∀o,w'.cell? ⟨b+1,o,none⟩=X[o]?)
theorem Kb.of {A X:Array Value}{b:Nat}{w1 w':World}(h:w1.heap[b]? =some (.cells A 26 (0,0)))(h2:w1.heap[b+1]? =some (.cells X 87 (0,0)))(j:BW w1 w'):Kb A X b w1 w':=
 ⟨j,(a' (b' j h)).1,(a' (b' j h2)).1⟩
theorem Kb.drew {A X:Array Value}{b:Nat}{w1 w':World}(h:Kb A X b w1 w'):Kb A X b w1 w'.drew:=⟨h.1.drew,h.2.1,h.2.2⟩
theorem D1 (S':UO)(w:World)(p:Nat)(st:Int)(ab:r' false st p w)(D:Nat)(bl bu qu iz win fin work:Int)(t:jO)(bd:Int)(j sb u:UP)(y z G:Nat)(af:vn (λ_=>True) w (mO D t bd) j sb u y z G)(pa:UP)(pc:Nat)(proof:List Int)(ad:hD.rel S' w [.slice pa proof.length pc] proof)(ae:proof.length<=1000000)(V:1<=D)(Y:D<=12):
 Calls prog 75 #[.pointer (some ⟨p,0,none⟩),.agg (qs 2 D bl bu qu iz win fin work),.agg #[UZ D,t.g5,.slice j t.marks.length y,.slice sb t.outs.length z,.slice u t.outs.length G,t.iK,t.wd,t.jn,t.acc,bd],.slice pa proof.length pc] w (Rt w (.bool (p8 D (mO D t bd) proof))):=by
 have h:=zH (λ_=>True) S' w p st ab 2 rfl D bl bu qu iz win fin work (mO D t bd) j sb u y z G af pa pc proof ad ae V Y;have K:(mO D t bd).iJ.length=t.outs.length:=by simp [mO]
 have U:(mO D t bd).li.length=t.outs.length:=nA _ _;unfold qr at h;rw [K,U]at h;exact h
theorem EX {P:Program} {f:FuncId} {args:Array Value} {w:World} {n:Nat} {v:Value}
 (h:Calls P f args (w.drewN n) λe w'=>e= .returned v/\w.drewN n=w'):Calls P f args (w.drewN n) λe y=>e= .returned v/\ ∃m,y=w.drewN m:=
 h.mono λ_ _ ⟨j,u⟩=>⟨j,n,u.symm⟩
theorem Fs (S:UO)(w:World)(p:Nat)(st:Int)(ax:r' false st p w)(d bl bu qu iz win fin work:Int)(t:jO)(ma oa pa:UP)(mc oc pc:Nat)(h:ks S w t ma oa pa mc oc pc)(aH:t.proof.length<=1000000):
 Calls prog 30 #[.pointer (some ⟨p,0,none⟩),.agg (qs 2 d bl bu qu iz win fin work),.agg (jQ t ma mc oa oc pa pc)] w (Rt w (UZ (kF d bl bu qu iz win fin work t))):=by
 have av:=jc w (.cells (qs 2 d bl bu qu iz win fin work) 26);have V:=hd av (.cells (jQ t ma mc oa oc pa pc) 87);have az:=iq (o':= .cells (jQ t ma mc oa oc pa pc) 87) (gY w (.cells (qs 2 d bl bu qu iz win fin work) 26));have qB:=gY (w.alloc (.cells (qs 2 d bl bu qu iz win fin work) 26)) (.cells (jQ t ma mc oa oc pa pc) 87);have ar:(w.alloc (.cells (qs 2 d bl bu qu iz win fin work) 26)).heap.size=w.heap.size+1:=U4 ..;rw [ar]at qB;obtain⟨H,ap,Y,af,ae⟩:=zL (h.c' V) (ax.c' V) az qB V;have K:Hi (kF d bl bu qu iz win fin work t=if jK 2 d bl bu qu iz win fin work=0 then (if hF t=0 then (if p8 d.toNat (mO d.toNat t 0) t.proof=true then 0 else 10)else hF t)else jK 2 d bl bu qu iz win fin work):=rfl;clear av V az qB ar h ax;go_in;go_wp2_with fail;generalize (w.alloc (.cells (qs 2 d bl bu qu iz win fin work) 26)).alloc (.cells (jQ t ma mc oa oc pa pc) 87)=W at*
 refine UR (vv 2 d bl bu qu iz win fin work W) λw1 hb1=> ?_;by_cases hr:jK 2 d bl bu qu iz win fin work=0
 ·obtain⟨d0,d1⟩:=uN hr
  have z:Hi (kF d bl bu qu iz win fin work t=if hF t=0 then (if p8 d.toNat (mO d.toNat t 0) t.proof=true then 0 else 10)else hF t):=Hd (by rw [K.o,g7 hr]);rw [hr];clear hr K;obtain⟨D,aF⟩:=lv (show 0<=d by omega);subst aF;rw [jJ]at z;obtain⟨ah,ai⟩:=a' (b' hb1 Y.o);obtain⟨aj,ak⟩:=a' (b' hb1 af.o);have aA:=Hd (ap.o.c' hb1);go_wp2_with fail;go_quiet ((go_at_call 63;exact EX (oU _ p false st (aA.o.c' (ny (g' _ _) _)))));have U:=ny hb1 nq;clear ah ai aj ak hb1;generalize w1.drewN nq=w2 at*;obtain⟨aj,ak⟩:=a' (b' U af.o);obtain⟨ah,ai⟩:=a' (b' U Y.o);go_wp2_with fail;refine UR (m3 S w2 t ma oa pa mc oc pc (H.o.c' U)) λag hb3=> ?_;have y:=d' U hb3;by_cases j:hF t=0
  ·have aE:=Hd j
   have aq:Hi (kF D bl bu qu iz win fin work t=if p8 D (mO D t 0) t.proof=true then 0 else 10):=Hd (by rw [z.o,g7 j]);rw [j];clear j z ah ai aj ak;obtain⟨ab,ad,al,aC⟩:=oX (b' y Y.o) (b' y af.o) (H.o.c' y) (ap.o.c' y);go_wp2_with fail
   go_region_held3 (λw'=>BW ag w'/\(∀o,w'.cell? ⟨w.heap.size,o,none⟩=((qs 2 D bl bu qu iz win fin work):Array Value)[o]?)/\(∀o,w'.cell? ⟨w.heap.size+1,o,none⟩=((jQ t ma mc oa oc pa pc):Array Value)[o]?))
    (first
      |with_reducible exact Kb.drew (Kb.of ab.o ad.o (g' _ _))
      |with_reducible exact G.o
      |with_reducible exact ao.o)
    (first
      |(go_at_call 76;refine(zq S _ t ma oa pa mc oc pc (al.o.c' (‹BW ag _/\_›).1) aE.o D UN).mono ?_;rintro e aQ⟨bd,aI,sb,aJ,aK,aL,aM,aP,q1,rfl,ay,aG⟩
        have aD:=Hd ay;have G:=Hd (Kb.of ab.o ad.o (d' (‹BW ag _/\_›).1 aG));clear ay)
      |(go_at_call 75;refine UR (D1 S _ p st (aC.o.c' G.o.1) D bl bu qu iz win fin work t bd aI sb aJ aK aL aM aD.o pa pc t.proof (hD.c' al.o.proof G.o.1) aH UN UN) λaT hb5=> ?_
        have ao:=Hd (Kb.of ab.o ad.o (d' G.o.1 hb5));rw [AN D t bd q1]))
   have aw:=d' ae.o (d' y ao.o.1)
   cases au:p8 D (mO D t 0) t.proof with
   |true=>
    have u:Hi (kF D bl bu qu iz win fin work t=0):=Hd (by rw [aq.o,au];rfl);go_wp2;go_ret;exact⟨g2 u.o.symm,aw⟩
   |false=>
    have u:Hi (kF D bl bu qu iz win fin work t=10):=Hd (by rw [aq.o,au];rfl);go_wp2;go_ret;exact⟨g2 u.o.symm,aw⟩
  ·have u:Hi (kF D bl bu qu iz win fin work t=hF t):=by show _=_;rw [z.o,g3 j]
   have aN:(hF t==0)=false:=(by rw [je];exact j);have aO:(hF t != 0)=true:=(by rw [iB];exact j);clear j z;generalize hF t=r at*;go_wp2;go_ret;exact⟨g2 u.o.symm,d' ae.o y⟩
 ·have u:Hi (kF d bl bu qu iz win fin work t=jK 2 d bl bu qu iz win fin work):=by show _=_;rw [K.o,g3 hr]
  have aN:(jK 2 d bl bu qu iz win fin work==0)=false:=(by rw [je];exact hr);have aO:(jK 2 d bl bu qu iz win fin work != 0)=true:=(by rw [iB];exact hr);clear hr K;generalize jK 2 d bl bu qu iz win fin work=r at*;go_wp2;go_ret;exact⟨g2 u.o.symm,d' ae.o hb1⟩
end Go.Proofs.YtjdiofjjoefnhaaGreatDoor
