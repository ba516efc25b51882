/- The program's packed bytes, exact. -/
import Derived.Test.YtjdiofjjoefnhaaGreatDoorMTxR
set_option maxRecDepth 100000
set_option maxHeartbeats 4000000
namespace Go.Proofs.YtjdiofjjoefnhaaGreatDoor
open Tryz Go.ChangeShapes Go.WideShapes Go.ChangeAt Go.RowKit
def m0 (xs:List Int)(c:Nat):List Int:=(List.range c).map (chunk xs)
theorem BN (xs:List Int)(c:Nat):(m0 xs c).length=c:=by simp [m0]
theorem zF (xs:List Int)(c:Nat):m0 xs (c+1)=m0 xs c++ [chunk xs c]:=by simp [m0,List.range_succ]
theorem tI (xs:List Int)(k j:Nat)(h:k+j<xs.length):nh ((xs.drop k).take (j+1))=nh ((xs.drop k).take j)+xs[k+j]*256^j:=by
 rw [z4 (by simp;omega),uF,Ug];have:((xs.drop k).take j).length=j:=by simp;omega
 rw [this]
theorem G1 (S:UO)(w:World)(a:UP)(cap:Nat)(xs:List Int)(h:hD.rel S w [.slice a xs.length cap] xs)(ag:xs.length<=3000000):
 Calls prog 154 #[.slice a xs.length cap] w λe w'=> ∃aF aG,e= .returned (.slice aF (mg xs).length aG)/\gZ.rel (λ_=>True) w' [.slice aF (mg xs).length aG] (mg xs)/\BW w w':=by
 obtain⟨H,aD⟩:=ik h (pU h);have aT:=(g4.lens h).2;unfold maxLen at aT;clear h;go_in;go_wp2_with (at_make;refine m5 rfl _ _ rfl iX (n:=1) (m:=1+(xs.length+6) / 7) rfl rfl ?_ ?_ ?_ ?_ ?_ ?_)
 ·rfl
 ·omega
 ·omega
 ·omega
 ·unfold maxLen;omega
 intro cur aI w1 av hb1 a9;obtain⟨c0,rest,rfl⟩: ∃c0 rest,cur=c0::rest:=by
  cases cur with
  |nil=>exfalso;simp at aI;omega
  |cons c r=>exact⟨c,r,rfl⟩
 obtain⟨bb,be⟩:=a' av;have hw:IntKind.u64.wrap (xs.length:Int)=xs.length:=by rw [jP];omega
 have aJ:=h6 (i:=0) (v:= U2 (xs.length:Int)) av;have aK:(w1.setCell ⟨w.heap.size,0,none⟩ (U2 (xs.length:Int))).heap[w.heap.size]? =some (.cells ((U2 (xs.length:Int))::rest).toArray 24 (0,0)):=by simpa using aJ
 have aL:=nr (k:= .u64) (base:=w.heap.size) (xs:= [(xs.length:Int)]) aK aI US (by intro x aN;simp at aN;subst aN;exact ir UN UN) US (by unfold maxLen;omega) (g9 _);have hb2:BW w (w1.setCell ⟨w.heap.size,0,none⟩ (U2 (xs.length:Int))):=hb1.setCell (g9 _) _;obtain⟨aO,aC⟩:=ik aL hb2;clear aL hb2 aJ aK av;go_wp2_with fail;generalize w1.setCell ⟨w.heap.size,0,none⟩ (U2 (xs.length:Int))=w2 at*
 go_loopw [3,4] (λa4 aA wr=> ∃(c:Nat),7*c<=xs.length+6/\aA= UZ (7*c:Nat)/\Own ib w.heap.size 24 (λx=>False\/w.heap.size<=x) wr a4 ((xs.length:Int)::m0 xs c)/\BW w wr/\w.heap.size<=wr.heap.size) (λ_ aA _=>xs.length+8-(intOf aA).toNat)
 case atStart=>exact⟨0,UN,rfl,by simpa [m0]using aO.o,aC.o,aC.o.size⟩
 case round=>
  obtain⟨c,a0,rfl,u,ad,aM⟩:=hrel;have aX:((xs.length:Int)::m0 xs c).length=c+1:=(by rw [Tz,BN]);have aE:=Hd (zF xs c);obtain⟨k,aw⟩:=iF (7*c);have V:=Hd aw;rw [aw]at a0⊢;obtain⟨z,ax⟩:=iF ((xs.length:Int)::m0 xs c);have aj:=Hd ax;rw [ax]at u aX;have a8:7*z.length<=k+7:=UN;clear ax aw;by_cases hlt:k<xs.length
  ·have a1:0<xs.length:=UN
   obtain⟨b,off,rfl, -, -, -, -, -⟩:=bytes_at H.o 0 a1;by_cases aU:k+7<=xs.length
   ·have aV: ¬((xs.length:Int)<(k:Int)+7):=UN
    have ak:=Hd u;clear u;go_wp2_with fail;have aW:k+7<=xs.length:=aU;go_loop [6,37] (λaz K=> ∃(j:Nat),j<=7/\K= UZ j/\az= U2 (nh ((xs.drop k).take j))) (λ_ K=>7-(intOf K).toNat)
    case atStart=>exact⟨0,iy _,rfl,by rw [U6];rfl⟩
    case round=>
     obtain⟨j,aY,rfl,rfl⟩:=hrel;have y:=qx ((xs.drop k).take j) λd au=>aD.o d (TQ (TV au));have ae:((xs.drop k).take j).length=j:=(by simp;omega);rw [ae]at y
     by_cases aZ:j<7
     ·obtain⟨aQ,a3,ab, -, -,d0,d1,ar⟩:=bytes_at (hD.c' H.o ad) (k+j) UN
      simp at ab;obtain⟨rfl,rfl⟩:=ab;rw [<-xG]at ar;have ao:=Hd (tI xs k j UN);have u:=Bd (m:=nh ((xs.drop k).take j)) (x:=xs[k+j]) j UN y.1 y.2 d0 d1;rw [<-ao.o]at u;have al:=Hd u;generalize xs[k+j]=x at*;generalize nh ((xs.drop k).take j)=n at*;clear u y ae;go_wp2_with fail;go_round
      case rel=>exact⟨j+1,UN,by go_num,by rw [al.o]⟩
      case measure=>exact UY
     ·obtain rfl:j=7:=UN
      have ay:=(tU ⟨7,UN⟩).1.2;simp only at ay;have ah:Hi (chunk xs c=nh ((xs.drop k).take 7)):=by
       show _=_;unfold chunk;rw [V.o]
      have ap:Hi (ib.rel (λ_=>False) wr [(nh ((xs.drop k).take 7))] (nh ((xs.drop k).take 7))):=⟨rfl,ir y.1 UN⟩;have Y:Hi (z.length+1<=maxLen/\(z.length+1)*8<=140737488355328):=(by unfold maxLen;constructor<;>omega);have ai:Hi ((xs.length:Int)::m0 xs (c+1)=z++ [nh ((xs.drop k).take 7)]):=Hd (by rw [aE.o,ah.o,<-aj.o];rfl);have U:Hi (7*(c+1)=k+7):=Hd (by have:=V.o;omega);generalize nh ((xs.drop k).take 7)=n at*
      go_wp2_with (at_builtin;refine km (r:=ib) (wr:=wr) (es:= [U2 n]) (v:=u3) (w0:=w) (B:=w.heap.size) rfl _ _ rfl iX rfl rfl ad aM ak.o ap.o (λx ag=>ag.elim) Y.o.1 Y.o.2 ?_)
      intro v2 a5 af hb3;have G:=Own.mono af (F':=λx=>False\/w.heap.size<=x) λx _ h=>(by first|exact h|exact .inr h);rw [<-ai.o]at G;have aq:=Hd G;clear af G;go_wp2;go_roundw
      case rel=>exact⟨c+1,by have:=U.o;omega,by rw [U.o];go_num,aq.o,hb3,hb3.size⟩
      case measure=>exact UY
   ·have aV:(xs.length:Int)<(k:Int)+7:=UN
    have ak:=Hd u;clear u;go_wp2_with fail;obtain⟨M,aH⟩:=iF (xs.length-k);rw [aH];have a6:M<=7:=UN;have aW:k+M<=xs.length:=UN;have a7:xs.length<=k+M:=UN;clear aH;go_loop [6,37] (λaz K=> ∃(j:Nat),j<=M/\K= UZ j/\az= U2 (nh ((xs.drop k).take j))) (λ_ K=>M-(intOf K).toNat)
    case atStart=>exact⟨0,iy _,rfl,by rw [U6];rfl⟩
    case round=>
     obtain⟨j,aY,rfl,rfl⟩:=hrel;have y:=qx ((xs.drop k).take j) λd au=>aD.o d (TQ (TV au));have ae:((xs.drop k).take j).length=j:=(by simp;omega);rw [ae]at y
     by_cases aZ:j<M
     ·obtain⟨aQ,a3,ab, -, -,d0,d1,ar⟩:=bytes_at (hD.c' H.o ad) (k+j) UN
      simp at ab;obtain⟨rfl,rfl⟩:=ab;rw [<-xG]at ar;have ao:=Hd (tI xs k j UN);have u:=Bd (m:=nh ((xs.drop k).take j)) (x:=xs[k+j]) j UN y.1 y.2 d0 d1;rw [<-ao.o]at u;have al:=Hd u;generalize xs[k+j]=x at*;generalize nh ((xs.drop k).take j)=n at*;clear u y ae;go_wp2_with fail;go_round
      case rel=>exact⟨j+1,UN,by go_num,by rw [al.o]⟩
      case measure=>exact UY
     ·obtain rfl:j=M:=UN
      have ay:=(tU ⟨j,UN⟩).1.2;simp only at ay;have ah:Hi (chunk xs c=nh ((xs.drop k).take j)):=by
       show _=_;unfold chunk;rw [V.o];rw [TK (by simp;omega),TK (by simp;omega)]
      have ap:Hi (ib.rel (λ_=>False) wr [(nh ((xs.drop k).take j))] (nh ((xs.drop k).take j))):=⟨rfl,ir y.1 UN⟩;have Y:Hi (z.length+1<=maxLen/\(z.length+1)*8<=140737488355328):=(by unfold maxLen;constructor<;>omega);have ai:Hi ((xs.length:Int)::m0 xs (c+1)=z++ [nh ((xs.drop k).take j)]):=Hd (by rw [aE.o,ah.o,<-aj.o];rfl);have U:Hi (7*(c+1)=k+7):=Hd (by have:=V.o;omega);generalize nh ((xs.drop k).take j)=n at*
      go_wp2_with (at_builtin;refine km (r:=ib) (wr:=wr) (es:= [U2 n]) (v:=u3) (w0:=w) (B:=w.heap.size) rfl _ _ rfl iX rfl rfl ad aM ak.o ap.o (λx ag=>ag.elim) Y.o.1 Y.o.2 ?_)
      intro v2 a5 af hb3;have G:=Own.mono af (F':=λx=>False\/w.heap.size<=x) λx _ h=>(by first|exact h|exact .inr h);rw [<-ai.o]at G;have aq:=Hd G;clear af G;go_wp2;go_roundw
      case rel=>exact⟨c+1,by have:=U.o;omega,by rw [U.o];go_num,aq.o,hb3,hb3.size⟩
      case measure=>exact UY
  ·have HC:Hi (z=mg xs):=by
    show _=_;have h1:c=(xs.length+6) / 7:=(by have:=V.o;omega);subst h1;exact aj.o.symm
   rw [HC.o]at u;obtain⟨a2,c2,rfl, -, -⟩:=g4.form u.slice;have aP:=Hd (gZ.mono u.slice (S':=λ_=>True) λ_ _ _=>trivial);clear u;go_wp2;go_ret;exact⟨a2,c2,rfl,aP.o,ad⟩
theorem th (S:UO)(w:World)(label:Int)(V:0<=label)(a:UP)(len cap:Nat)(xs:List Int)(Y:len=xs.length)(h:hD.rel S w [.slice a len cap] xs)(ab:xs.length<=3000000):
 Calls prog 107 #[label,.slice a len cap] w (Rt w (U2 (iD label (mg xs)))):=by
 subst Y;have z:(mg xs).length<=1000000:=by
  show((xs.length:Int)::chunks xs).length<=_;rw [Tz,kR];omega
 go_in;go_wp2_with fail;refine(G1 S w a cap xs h ab).mono ?_;rintro e w1⟨U,c1,rfl,G,hb1⟩;obtain⟨y,u⟩:=ik G z;clear G z;obtain⟨l,j⟩:=iF (mg xs);have K:=Hd j;rw [j]at y u⊢;clear j;go_wp2_with fail;refine UR (oQ label V (λ_=>True) w1 U c1 l y.o u.o) λw2 hb2=> ?_;go_wp2;go_ret;exact⟨g2 (by rw [K.o]),d' hb1 hb2⟩
def qU (l:List Int)(N:Nat)(w:World)(e:Ending)(w':World):Prop:= ∃(ys:List Int) (a:UP) (cap:Nat),Hi (ys=l)/\ys.length<=N/\e= .returned (.slice a ys.length cap)/\hD.rel (λ_=>True) w' [.slice a ys.length cap] ys/\BW w w'
theorem lP.xD {ys:List Int}{N:Nat}{w w':World}{e:Ending}(h:t0 ys w e w')(u:ys.length<=N):qU ys N w e w':=by
 obtain⟨a,cap,h1,h2,j⟩:=h;exact⟨ys,a,cap,rfl,u,h1,h2,j⟩
theorem qg (N:Nat)(w:World)(a:UP)(cap:Nat)(xs:List Int)(h:hD.rel (λ_=>True) w [.slice a xs.length cap] xs)(y:xs.length<=N)(u:N<=100000)(n:Int)(j:iZ n):
 Calls prog 46 #[.slice a xs.length cap,n] w (qU (xs++hN 8 n) (N+8) w):=
 (yq _ w a cap xs h n (iE j).1 (iE j).2 UN).mono λ_ _ h=>lP.xD h (by rw [U3,hA];omega)
theorem Kr (N:Nat)(w:World)(a:UP)(cap:Nat)(xs:List Int)(h:hD.rel (λ_=>True) w [.slice a xs.length cap] xs)(y:xs.length<=N)(u:N<=100000)(n:Nat)(j:n<=4294967295):
 Calls prog 43 #[.slice a xs.length cap,UZ n] w (qU (xs++hN 4 n) (N+4) w):=
 (Bq _ w a cap xs h n j UN).mono λ_ _ h=>lP.xD h (by rw [U3,hA];omega)
theorem LX (N M:Nat)(S':UO)(w:World)(a:UP)(cap:Nat)(xs:List Int)(h:hD.rel (λ_=>True) w [.slice a xs.length cap] xs)(G:xs.length<=N)(y:N<=100000)(la:UP)(lc:Nat)(l:List Int)(j:gZ.rel S' w [.slice la l.length lc] l)(z:l.length<=M)(u:M<=1000):
 Calls prog 44 #[.slice a xs.length cap,.slice la l.length lc] w (qU (xs++lp l) (N+4+8*M) w):=
 (yr _ S' w a cap xs h la lc l j UN UN).mono λ_ _ h=>by
   rw [Tt]at h;exact lP.xD (ys:=xs++lp l) h (by simp only [U3,kC];omega)
theorem MT (N:Nat)(S':UO)(w:World)(a:UP)(cap:Nat)(xs:List Int)(h:hD.rel (λ_=>True) w [.slice a xs.length cap] xs)(z:xs.length<=N)(u:N<=100000)(la:UP)(lc:Nat)(l:List Int)(j:hD.rel S' w [.slice la l.length lc] l)(y:l.length<=1048576):
 Calls prog 268 #[.slice a xs.length cap,.slice la l.length lc] w (qU (xs++(hN 4 l.length++l)) (N+4+l.length) w):=
 (AO _ S' w a cap xs h la lc l j UN UN).mono λ_ _ h=>lP.xD h (by simp only [U3,hA];omega)
theorem DT (S:UO)(w:World)(t:jO)(ma oa pa:UP)(mc oc pc:Nat)(h:ks S w t ma oa pa mc oc pc)(az:hF t=0)(ad:UP)(ae:Nat)(proof:List Int)(S':UO)(ay:hD.rel S' w [.slice ad proof.length ae] proof)(bX:proof.length<=1048576):
 Calls prog 178 #[.agg #[t.g5,.slice ma t.marks.length mc,.slice oa t.outs.length oc,t.iK,t.wd,t.jn,t.acc,t.e',UZ t.exp,.slice pa t.proof.length pc],.slice ad proof.length ae] w (qU (encS t proof) (2000+proof.length) w):=by
 obtain⟨f1,cv,ag,bB,cw,cy⟩:=ke az;have z:=jc w (.cells #[t.g5,.slice ma t.marks.length mc,.slice oa t.outs.length oc,t.iK,t.wd,t.jn,t.acc,t.e',UZ t.exp,.slice pa t.proof.length pc] 87);obtain⟨y,H,aZ,aU,aX⟩:=zL (gY w (.cells #[t.g5,.slice ma t.marks.length mc,.slice oa t.outs.length oc,t.iK,t.wd,t.jn,t.acc,t.e',UZ t.exp,.slice pa t.proof.length pc] 87)) (h.c' z) (hD.c' ay z) z ag;clear z h az ag ay;go_in;go_wp2_with fail;generalize w.alloc (.cells #[t.g5,.slice ma t.marks.length mc,.slice oa t.outs.length oc,t.iK,t.wd,t.jn,t.acc,t.e',UZ t.exp,.slice pa t.proof.length pc] 87)=W at*
 refine(qg 0 W none 0 [] g4.nil (g9 _) UN t.g5 H.o.g5).mono ?_;rintro e w1⟨ce,a3,c1,aE,l1,rfl,h1,hb1⟩;obtain⟨j,u⟩:=a' (b' hb1 y.o);go_wp2_with fail;refine(LX 8 4 S w1 a3 c1 ce h1 UN UN ma mc t.marks (gZ.c' H.o.marks hb1) UN UN).mono ?_;rintro e w2⟨cf,a2,c2,aF,l2,rfl,h2,hb2⟩;have av:=d' hb1 hb2;clear j u;obtain⟨j,u⟩:=a' (b' av y.o);go_wp2_with fail;refine(Kr 44 w2 a2 c2 cf h2 UN UN t.outs.length UN).mono ?_;rintro e cK⟨aC,a4,bj,aG,l3,rfl,bJ,hb3⟩;have aw:=d' av hb3;clear j u;obtain⟨j,u⟩:=a' (b' aw y.o);go_wp2;go_loopw [5,23] (λb6 af wr=> ∃(k:Nat) (ys:List Int) (a:UP) (c:Nat),k<=t.outs.length/\af= UZ k/\b6= .slice a ys.length c/\Hi (ys=aC++mV (t.outs.take k))/\ys.length<=48+52*k/\hD.rel (λ_=>True) wr [.slice a ys.length c] ys/\BW W wr) (λ_ af _=>t.outs.length-(intOf af).toNat)
 case atStart=>exact⟨0,aC,a4,bj,iy _,rfl,rfl,by show _=_;simp [mV],UN,bJ,aw⟩
 case round=>
  obtain⟨k,ys,a,c,cA,rfl,rfl,aA,bY,ab,G⟩:=hrel;clear j u;by_cases hlt:k<t.outs.length
  ·obtain⟨b,off,ca,cc,rfl, -,cz,o1,o2,o3,ai,c0,bh,bi,bk⟩:=mp (mK.c' H.o.outs G) k hlt
   have V:=Hd (aX.o t.outs[k] (z3 hlt));have a0:Hi (mV (t.outs.take (k+1))=mV (t.outs.take k)++AV t.outs[k]):=Hd (by rw [z4 hlt,t7]);generalize t.outs[k]=o at*;have U:=jc wr (.cells #[o.g6,o.p0,o.p1,.slice ca o.ha.length cc] 156);have ak:=gY wr (.cells #[o.g6,o.p0,o.p1,.slice ca o.ha.length cc] 156);have aV:=Hd (gZ.c' ai U);have bQ:=d' G U;obtain⟨K,a1⟩:=ik ak (hD.c' ab U);clear ai ak ab;go_wp2_with fail;generalize wr.alloc (.cells #[o.g6,o.p0,o.p1,.slice ca o.ha.length cc] 156)=cd at*;clear c0 bh bi bk;refine(qg (48+52*k) cd a c ys a1.o bY UN o.g6 o1).mono ?_;rintro e b7⟨cg,a5,bm,aH,bZ,rfl,bK,ah⟩;obtain⟨j,u⟩:=a' (b' ah K.o);go_wp2_with fail;refine(qg (48+52*k+8) b7 a5 bm cg bK bZ UN o.p0 o2).mono ?_;rintro e b8⟨ch,a6,bn,aI,cB,rfl,bL,hb5⟩;have ax:=d' ah hb5;clear j u;obtain⟨j,u⟩:=a' (b' ax K.o);go_wp2_with fail;refine(qg (48+52*k+16) b8 a6 bn ch bL UN UN o.p1 o3).mono ?_;rintro e b9⟨cj,a7,bo,aJ,cC,rfl,bM,bO⟩;have Y:=d' ax bO;clear j u;obtain⟨j,u⟩:=a' (b' Y K.o);go_wp2_with fail;refine(LX (48+52*k+24) 3 S b9 a7 bo cj bM UN UN ca cc o.ha (gZ.c' aV.o Y) (by have:=V.o;omega) UN).mono ?_;rintro e cL⟨ck,a8,bp,aK,cD,rfl,bN,bP⟩;go_wp2;go_roundw
   case rel=>exact⟨k+1,ck,a8,bp,UN,by go_num,rfl,by show _=_;rw [aK.o,aJ.o,aI.o,aH.o,aA.o,a0.o];simp [AV,ix,lp],UN,bN,d' bQ (d' Y bP)⟩
   case measure=>exact UY
  ·obtain rfl:k=t.outs.length:=UN
   obtain⟨j,u⟩:=a' (b' G y.o);go_wp2_with fail;refine(qg 300 wr a c ys ab UN UN t.iK H.o.iK).mono ?_;rintro e v1⟨cl,a9,d1,aL,m1,rfl,bC,bR⟩;have al:=d' G bR;clear j u;obtain⟨j,u⟩:=a' (b' al y.o);go_wp2_with fail;refine(qg 308 v1 a9 d1 cl bC UN UN t.wd H.o.wd).mono ?_;rintro e v2⟨cn,b2,bq,aM,m2,rfl,bD,bS⟩;have ao:=d' al bS;clear j u;obtain⟨j,u⟩:=a' (b' ao y.o);go_wp2_with fail;refine(qg 316 v2 b2 bq cn bD UN UN t.jn H.o.jn).mono ?_;rintro e b0⟨co,b3,br,aN,cE,rfl,bE,V⟩;have ap:=d' ao V;clear j u;obtain⟨j,u⟩:=a' (b' ap y.o);go_wp2_with fail;refine(qg 324 b0 b3 br co bE UN UN t.acc H.o.acc).mono ?_;rintro e b1⟨cp,bb,bt,aO,cF,rfl,bF,bT⟩;have aq:=d' ap bT;clear j u;obtain⟨j,u⟩:=a' (b' aq y.o);go_wp2_with fail;refine(qg 332 b1 bb bt cp bF UN UN t.e' H.o.e').mono ?_;rintro e b4⟨cq,be,bv,aP,cG,rfl,bG,bU⟩;have ar:=d' aq bU;clear j u;obtain⟨j,u⟩:=a' (b' ar y.o);obtain⟨bA,aj⟩:=lv bB;have aW:=Hd aj;rw [aj]at j;go_wp2_with fail;refine(Kr 340 b4 be bv cq bG UN UN bA UN).mono ?_;rintro e b5⟨cu,bf,bw,aQ,cH,rfl,bH,bV⟩;have au:=d' ar bV;go_wp2_with fail;refine(MT 344 S' b5 bf bw cu bH UN UN ad ae proof (hD.c' aZ.o au) bX).mono ?_;rintro e cJ⟨aD,bg,bx,aT,cI,rfl,bI,bW⟩;go_wp2;go_ret;have aY:Hi (aD=encS t proof):=by
    show _=_;have bz:t.outs.take t.outs.length=t.outs:=Sw;rw [aT.o,aQ.o,aP.o,aO.o,aN.o,aM.o,aL.o,aA.o,bz,aG.o,aF.o,aE.o];unfold encS;rw [aW.o];simp [ix,lp]
   exact⟨aD,bg,bx,aY,UN,rfl,bI,d' aU.o (d' au bW)⟩
end Go.Proofs.YtjdiofjjoefnhaaGreatDoor
