/- The reference's bytes: Digits, Int, List, Bytes. -/
import Derived.Test.YtjdiofjjoefnhaaGreatDoorMRdR
import Derived.Test.YtjdiofjjoefnhaaGreatDoorMTx
set_option maxRecDepth 100000
set_option maxHeartbeats 16000000
namespace Go.Proofs.YtjdiofjjoefnhaaGreatDoor
open Tryz Go.ChangeShapes Go.WideShapes Go.ChangeAt Go.RowKit Go.Sort
def lp (l:List Int):List Int:=hN 4 l.length++ix l
def AV (o:og):List Int:=ix [o.g6,o.p0,o.p1]++lp o.ha
def mV:List og->List Int
 | []=> []
 |o::l=>AV o++mV l
def encS (t:jO)(proof:List Int):List Int:=
 hN 8 t.g5++lp t.marks++hN 4 t.outs.length++mV t.outs++ix [t.iK,t.wd,t.jn,t.acc,t.e']++hN 4 t.exp++(hN 4 proof.length++proof)
theorem kC (l:List Int):(lp l).length=4+8*l.length:=by simp [lp,hA,jV]
theorem yb (o:og):(AV o).length=28+8*o.ha.length:=by simp only [AV,U3,kC,jV];simp;omega
theorem t7: ∀(l:List og) (o:og),mV (l++ [o])=mV l++AV o
 | [],o=>by simp [mV]
 |x::l,o=>by simp [mV,t7 l o]
theorem tv: ∀(l:List og),(∀o∈l,o.ha.length<=1000)->(mV l).length<=9000*l.length
 | [],_=>by simp [mV]
 |x::l,h=>by
  have h1:=h x US;have h2:=tv l λo j=>h o (by simp [j]);simp only [mV,U3,Tz,yb];omega
def chunk (l:List Int)(j:Nat):Int:=nh ((l.drop (7*j)).take 7)
def chunks (l:List Int):List Int:=(List.range ((l.length+6) / 7)).map (chunk l)
def mg (l:List Int):List Int:=(l.length:Int)::chunks l
theorem kR (l:List Int):(chunks l).length=(l.length+6) / 7:=by simp [chunks]
theorem rb (l:List Int)(j:Nat)(h:j<(chunks l).length):(chunks l)[j]=chunk l j:=by simp [chunks]
theorem rx (l:List Int)(i j:Nat)(h:7*j+7<=i):chunk (l.take i) j=chunk l j:=by
 unfold chunk;rw [List.drop_take,T7,sq UN]
theorem t8 (l:List Int)(i j:Nat)(h1:7*j<=i)(h2:i<=7*j+7):chunk (l.take i) j=nh ((l.drop (7*j)).take (i-7*j)):=by
 unfold chunk;rw [List.drop_take,T7,Nat.min_eq_right UN]
theorem Fq (l:List Int)(i:Nat)(hi:i<l.length)(G:i % 7=0):chunks (l.take (i+1))=chunks (l.take i)++ [l[i]]:=by
 have y:(l.take (i+1)).length=i+1:=by simp;omega
 have u:(l.take i).length=i:=by simp;omega
 apply Um
 ·rw [U3,kR,kR,y,u];simp;omega
 ·intro j h1 h2
  rw [kR,y]at h1;rw [rb];rcases kZ j (i / 7)with z|z
  ·rw [TT (by rw [kR,u];omega),rb,rx _ _ _ UN,rx _ _ _ UN]
  ·obtain rfl:j=i / 7:=UN
   rw [TW (by rw [kR,u];omega)];simp only [List.getElem_singleton];rw [t8 _ _ _ UN UN,show 7*(i / 7)=i by omega,show i+1-i=0+1 by omega,TU hi,Tr,U6];show l[i]+256*0=l[i];omega
theorem DW (l:List Int)(i:Nat)(hi:i<l.length)(K:i % 7≠0):chunks (l.take (i+1))=(chunks (l.take i)).set (i / 7) (chunk (l.take i) (i / 7)+l[i]*256^(i % 7)):=by
 have u:(l.take (i+1)).length=i+1:=by simp;omega
 have z:(l.take i).length=i:=by simp;omega
 apply Um
 ·rw [TG,kR,kR,u,z];omega
 ·intro j h1 h2
  rw [kR,u]at h1;rw [rb,List.getElem_set];split
  ·rename_i y
   subst y;rw [t8 _ _ _ UN UN,t8 _ _ _ UN UN,show i+1-7*(i / 7)=(i-7*(i / 7))+1 by omega,z4 (by simp;omega),uF];have G:((l.drop (7*(i / 7))).take (i-7*(i / 7))).length=i % 7:=(by simp;omega);rw [G];congr 2;rw [Ug];congr 1;omega
  ·rename_i y
   rw [rb,rx _ _ _ UN,rx _ _ _ UN]
theorem JK (l:List Int)(h: ∀d∈l,0<=d/\d<256)(j:Nat):0<=chunk l j/\chunk l j<72057594037927936:=by
 have h1:=qx ((l.drop (7*j)).take 7) λd u=>h d (TQ (TV u));have h2:=(tU ⟨((l.drop (7*j)).take 7).length,by simp;omega⟩).2 (by simp;omega);simp only at h2;unfold chunk;omega
theorem i3 (w:World)(n:Int)(ak:0<=n)(n1:n<18446744073709551616)(count:Nat)(aq:count<=8):Calls prog 50 #[n,UZ count] w (lJ w.heap.size w (hN count n)):=by
 go_wp2;go_loopw [0,5,6] (λal ao y wr=> ∃(k:Nat) (m:Int) (ys:List Int),k<=count/\y= UZ k/\al= U2 m/\0<=m/\m<18446744073709551616/\ys.length=k/\Hi (ys++hN (count-k) m=hN count n)/\Own ve w.heap.size 5 (λx=>False\/w.heap.size<=x) wr ao (ys)/\BW w wr) (λ_ _ y _=>count-(intOf y).toNat)
 case atStart=>exact⟨0,n,[],iy _,rfl,rfl,ak,n1,rfl,rfl,Own.nil _ _ _ _ _,g' _ _⟩
 case round=>
  obtain⟨k,m,ys,ar,rfl,rfl,av,m1,aj,G,u,j⟩:=hrel;have ah:=j.size;by_cases hlt:k<count
  ·have Y:Hi ((ys++ [m % 256])++hN (count-(k+1)) (m / 256)=hN count n):=by
    show _=_;rw [<-G.o,Tt,show count-k=(count-(k+1))+1 by omega];rfl
   have U:(Lit.int .u8 (m % 256)).wf=true:=by
    simp [Lit.wf,IntKind.min,IntKind.max,IntKind.signed,IntKind.bits];omega
   have ab:=Hd u;have ad:Hi (ve.rel (λ_=>False) wr [.int .u8 (m % 256)] (m % 256)):=⟨rfl,U⟩;have ap:IntKind.u8.wrap (m % 256)=m % 256:=(by rw [IntKind.wrap_u8];omega);have af:0<=m / 256:=UN;have ag:m / 256<18446744073709551616:=UN;have au:(k:Int)<(count:Int):=UN;have z:Hi (ys.length+1<=maxLen/\(ys.length+1)*1<=140737488355328):=(by unfold maxLen;constructor<;>omega);clear u U;go_wp2_with (at_builtin;refine km (r:=ve) (wr:=wr) (es:= [.int .u8 (m % 256)]) (w0:=w) (B:=w.heap.size) rfl _ _ rfl iU rfl rfl j ah ab.o ad.o (λx ai=>ai.elim) z.o.1 z.o.2 ?_)
   intro v2 w2 K hb2;have ae:=Hd (Own.mono K (F':=λx=>False\/w.heap.size<=x) λx _ h=>by first|exact h|exact .inr h)
   clear K;go_wp2;go_roundw
   case rel=>exact⟨k+1,m / 256,ys++ [m % 256],UN,by go_num,rfl,af,ag,by rw [U3,aj];rfl,Y,ae.o,hb2⟩
   case measure=>exact UY
  ·obtain rfl:k=count:=UN
   have V:Hi (ys=hN k n):=by
    show _=_;rw [<-G.o,sp];simp [hN]
   go_wp2;go_ret;exact⟨_,rfl,by rw [<-V.o];exact u,j⟩
theorem lJ.read {B:Nat}{w w':World}{ys:List Int}{e:Ending}(h:lJ B w ys e w'): ∃a cap,e= .returned (.slice a ys.length cap)/\Own ve B 5 (λx=>False\/B<=x) w' (.slice a ys.length cap) (ys)/\hD.rel (λ_=>True) w' [.slice a ys.length cap] ys/\Below B w w':=by
 obtain⟨v,rfl,j,u⟩:=h;obtain⟨a,cap,rfl, -, -⟩:=g4.form j.slice;exact⟨a,cap,rfl,j,hD.mono j.slice λ_ _ _=>trivial,u⟩
theorem pS (w:World)(n:Nat)(G:n<=4294967295):Calls prog 48 #[UZ n] w (lJ w.heap.size w (hN 4 n)):=by
 have z:IntKind.u64.wrap (n:Int)=n:=by rw [jP];omega
 have h1: ¬(n:Int)<0:=UN
 have h2: ¬(4294967296:Int)<=(n:Int):=UN
 go_in;go_wp2_with fail;refine(i3 w n UN UN 4 UN).mono ?_;intro e w1 h;obtain⟨a,cap,rfl,j, -,y⟩:=h.read;have u:=Hd j;clear j h;go_wp2;go_ret;exact⟨_,rfl,u.o,y⟩
theorem q8 (S:UO)(w:World)(la:UP)(lc:Nat)(l:List Int)(ab:gZ.rel S w [.slice la l.length lc] l)(av:l.length<=1000000):Calls prog 49 #[.slice la l.length lc] w (lJ w.heap.size w (lp l)):=by
 have H:=Hd ab;clear ab;go_in;go_wp2_with fail;refine(pS w l.length UN).mono ?_;intro e w1 h;obtain⟨a,cap,rfl,G, -,hb1⟩:=h.read;rw [hA]at G⊢;have ah:=Hd G;clear G h;go_wp2;go_loopw [3,4] (λao K wr=> ∃(k:Nat),k<=l.length/\K= UZ k/\Own ve w.heap.size 5 (λx=>False\/w.heap.size<=x) wr ao (hN 4 l.length++ix (l.take k))/\BW w wr) (λ_ K _=>l.length-(intOf K).toNat)
 case atStart=>exact⟨0,iy _,rfl,by simpa [ix]using ah.o,hb1⟩
 case round=>
  obtain⟨k,au,rfl,ae,j⟩:=hrel;have z:=Hd ae;have ap:=j.size;clear ae;by_cases hlt:k<l.length
  ·obtain⟨b,off,rfl,aq,al,n1,ar⟩:=il (gZ.c' H.o j) k hlt
   have V:Hi (ix (l.take (k+1))=ix (l.take k)++hN 8 l[k]):=Hd (by rw [z4 hlt,n6]);have U:Hi ((hN 4 l.length++ix (l.take k)).length+(hN 8 l[k]).length<=maxLen/\((hN 4 l.length++ix (l.take k)).length+(hN 8 l[k]).length)*1<=140737488355328):=by
    have:(l.take k).length<=l.length:=(by simp;omega);simp only [U3,hA,jV];unfold maxLen;constructor<;>omega
   have aw:(0:Int)<=(k:Int):=UN;have ax:(k:Int)<(l.length:Int):=UN;generalize l[k]=m at*;go_wp2_with fail;refine(i3 wr m al n1 8 UN).mono ?_;intro e w2 h;obtain⟨a2,c2,rfl, -,af,hb2⟩:=h.read;have HR2:=Hd af;have Y:=d' j hb2;have ak:=Y.size;have ai:=Hd (z.o.c' hb2);clear h af;go_wp2_with (at_builtin;go_loud (refine kw (k:= .u8) (v:=u3) (u:= .slice a2 (hN 8 m).length c2) (w0:=w) (B:=w.heap.size) (wr:=w2) (ys:=hN 8 m) rfl _ _ rfl iU rfl rfl Y ak ai.o HR2.o U.o.1 U.o.2 ?_))
   intro v2 ay ad hb3;have y:=Own.mono ad (F':=λx=>False\/w.heap.size<=x) λx _ h=>by first|exact h|exact .inr h
   first|rw [Tt,<-V.o]at y|rw [<-V.o]at y
   have aj:=Hd y;clear y;clear ad;go_wp2;go_roundw
   case rel=>exact⟨k+1,UN,by go_num,aj.o,hb3⟩
   case measure=>exact UY
  ·obtain rfl:k=l.length:=UN
   rw [Sw]at z;have ag:Hi (lp l=hN 4 l.length++ix l):=rfl;go_wp2;go_ret;exact⟨_,rfl,by rw [ag.o];exact z.o,j⟩
theorem EW (S:UO)(w:World)(la:UP)(lc:Nat)(l:List Int)(y:hD.rel S w [.slice la l.length lc] l)(ab:l.length<=100000000):Calls prog 149 #[.slice la l.length lc] w (lJ w.heap.size w (hN 4 l.length++l)):=by
 have H:=Hd y;clear y;go_in;go_wp2_with fail;refine(pS w l.length UN).mono ?_;intro e w1 h;obtain⟨a,cap,rfl,z, -,hb1⟩:=h.read;obtain⟨K,U⟩:=ik z (hD.c' H.o hb1);have Y:=hb1.size;have j:Hi ((hN 4 l.length).length+l.length<=maxLen/\((hN 4 l.length).length+l.length)*1<=140737488355328):=by
  simp only [hA];unfold maxLen;constructor<;>omega
 clear z h;go_wp2_with (at_builtin;go_loud (refine kw (k:= .u8) (v:= .slice a (hN 4 l.length).length cap) (u:= .slice la l.length lc) (w0:=w) (B:=w.heap.size) (wr:=w1) (xs:=hN 4 l.length) (ys:=l) rfl _ _ rfl iU rfl rfl hb1 Y K.o U.o j.o.1 j.o.2 ?_))
 intro v2 ad G hb3;have V:=Hd (Own.mono G (F':=λx=>False\/w.heap.size<=x) λx _ h=>by first|exact h|exact .inr h)
 clear G;go_wp2;go_ret;exact⟨_,rfl,V.o,hb3⟩
theorem sT (S:UO)(w:World)(a:UP)(len cap:Nat)(l:List Int)(U:len=l.length)(h:gZ.rel S w [.slice a len cap] l):
 Calls prog 129 #[.slice a len cap] w (Rt w (.bool (h' l))):=by
 subst U;have K:=(g4.lens h).2;unfold maxLen at K;have H:=Hd h;clear h;go_in;go_wp2_with fail;go_loop [3] (λi=> ∃k:Nat,k<=l.length/\i= UZ k/\Hi (jv (λk=>jC (l.getD k 0)) k=true)) (λi=>l.length-(intOf i).toNat)
 case atStart=>exact⟨0,iy _,rfl,rfl⟩
 case round=>
  obtain⟨k,ab,rfl,u⟩:=hrel;by_cases hlt:k<l.length
  ·obtain⟨b,off,rfl,V,af,n1,Y⟩:=il H.o k hlt
   have y:=Hd (getD_at l 0 k hlt);have ad:(0:Int)<=(k:Int):=UN;have ae:(k:Int)<(l.length:Int):=UN;generalize l[k]=n at*
   by_cases z:n<18446744069414584321
   ·have G:Hi (jv (λk=>jC (l.getD k 0)) (k+1)=true):=lg u.o (by rw [y.o];exact iP z)
    go_wp2_with fail;go_round
    case rel=>exact⟨k+1,UN,by go_num,G⟩
    case measure=>exact UY
   ·have j:Hi (h' l=false):=jp (k:=k) (by rw [y.o];exact iH z) hlt
    go_wp2;go_ret;exact⟨g8 j.o.symm,g' _ _⟩
  ·obtain rfl:k=l.length:=UN
   have j:Hi (h' l=true):=u;go_wp2;go_ret;exact⟨g8 j.o.symm,g' _ _⟩
theorem EI (w:World)(x y:Int)(j:0<=x)(u:0<=y):Calls prog 130 #[.agg #[x,y]] w (Rt w (.bool (rk x y))):=by
 go_in;go_wp2_with fail
 all_goals go_ret
 all_goals refine⟨g8 ?_,(g' _ _).alloc (g9 _) _⟩
 all_goals unfold rk
 all_goals first
  |exact(iP UN).symm
  |exact(iH UN).symm
  |exact sr.2 UN
  |(rw [oK];simp;omega)
theorem mr {t:jO}(h:(k5 t.marks&&(lL t.outs&&(kK t&&oh t)))=false):hF t=1:=by unfold hF;rw [h];rfl
theorem AI (p q:Nat->Bool): ∀n,jv (λk=>p k&&q k) n=(jv p n&&jv q n)
 |0=>rfl
 |n+1=>by
  unfold jv;rw [AI p q n]
  cases jv p n<;>cases jv q n<;>cases p n<;>cases q n<;>rfl
def tY (l:List Int)(k:Nat):Bool:= !mX l (l.getD k 0) k
theorem oz (l:List Int):k5 l=(decide (l.length<=4)&&(h' l&&jv (tY l) l.length)):=by
 have h:=AI (λk=>jC (l.getD k 0)) (tY l) l.length;unfold k5 h';rw [<-h];rfl
theorem ML {a b c:Int}(h:h' [a,b,c]=true):a<18446744069414584321/\b<18446744069414584321/\c<18446744069414584321:=by
 simp [h',jv,jC]at h;omega
theorem Fh {t:jO}(h:h' [t.g5,t.acc,t.e']=false):(kK t&&oh t)=false:=by
 cases h1:(kK t&&oh t)with
 |false=>rfl
 |true=>
  rw [kg]at h1;have h2:=mU h1.1;have j:=mU h1.2;have:h' [t.g5,t.acc,t.e']=true:=by simp [h',jv,jC];omega
  rw [this]at h;cases h
theorem Dg {t:jO}(G:k5 t.marks=true)(K:lL t.outs=true)(z:h' [t.g5,t.acc,t.e']=true)(y:iZ t.iK)(hw:iZ t.wd):
 hF t=if (t.iK<=4294967295/\t.wd<=4294967295/\t.jn<=4294967295)/\ ¬(0<t.iK/\0<t.wd)/\(t.iK=0->t.e'=0/\t.marks.length≠0/\(t.wd=0->t.acc=0))/\0<=t.exp/\t.exp<=1048576 then (if t.proof.length<=1048576 then 0 else 3)else 1:=by
 have V:=ML z;have d:=iE y;have U:=iE hw;unfold hF;rw [G,K,Bool.true_and,Bool.true_and];by_cases u:(t.iK<=4294967295/\t.wd<=4294967295/\t.jn<=4294967295)/\ ¬(0<t.iK/\0<t.wd)/\(t.iK=0->t.e'=0/\t.marks.length≠0/\(t.wd=0->t.acc=0))/\0<=t.exp/\t.exp<=1048576
 ·have h1:kK t=true:=iP UN
  have h2:oh t=true:=iP UN;rw [g7 u,h1,h2];rfl
 ·have h1:(kK t&&oh t)=false:=by
   cases j:(kK t&&oh t)with
   |false=>rfl
   |true=>
    rw [kg]at j;have Y:=mU j.1;have ab:=mU j.2;exact absurd UN u
  rw [g3 u,h1];rfl
theorem mw (S:UO)(w:World)(t:jO)(ma oa pa:UP)(mc oc pc:Nat)(h:ks S w t ma oa pa mc oc pc):
 Calls prog 86 #[.agg (jQ t ma mc oa oc pa pc)] w (Rt w (UZ (hF t))):=by
 have a0:=(g4.lens h.marks).2;have a1:=(g4.lens h.outs).2;have a2:=(g4.lens h.proof).2;unfold maxLen at a0 a1 a2;have ak:=(jc w (.cells (jQ t ma mc oa oc pa pc) 87));have ae:=Hd (gY w (.cells (jQ t ma mc oa oc pa pc) 87));obtain⟨z,H⟩:=ik ak (h.c' ak);clear h ak;by_cases aN:t.marks.length<=4
 ·have bi:(t.marks.length:Int)<=4:=by omega
  by_cases aO:t.outs.length<=4
  ·have bj:(t.outs.length:Int)<=4:=UN
   go_in;go_wp2_with fail;generalize w.alloc (.cells (jQ t ma mc oa oc pa pc) 87)=W at*
   refine UR (sT S W ma _ mc t.marks rfl H.o.marks) λw1 hb1=> ?_
   cases aq:h' t.marks with
   |false=>
    have j:Hi (hF t=1):=mr (by rw [oz,aq,kH,ll,kH]);go_wp2;go_ret;exact⟨g2 j.o.symm,d' z.o hb1⟩
   |true=>
    have aw:=Hd aq;clear aq;obtain⟨U,V⟩:=a' (b' hb1 ae.o);have aA:=Hd (LC w1 24 H.o.g5 H.o.acc H.o.e');go_wp2_with fail;refine UR (sT (λ_=>True) _ _ 3 3 [t.g5,t.acc,t.e'] rfl aA.o) λw2 hb2=> ?_;have aC:=d' (hd hb1 (.cells #[t.g5,t.acc,t.e'] 24)) hb2;clear U V hb2 aA
    cases ar:h' [t.g5,t.acc,t.e']with
    |false=>
     have j:Hi (hF t=1):=mr (by rw [Fh ar,ll,ll]);go_wp2;go_ret;exact⟨g2 j.o.symm,d' z.o aC⟩
    |true=>
     have ax:=Hd ar;clear ar;go_wp2;go_loopw [3] (λK wr=> ∃i:Nat,i<=t.marks.length/\K= UZ i/\Hi (jv (tY t.marks) i=true)/\BW W wr) (λK _=>t.marks.length-(intOf K).toNat)
     case atStart=>exact⟨0,iy _,rfl,rfl,aC⟩
     case round=>
      obtain⟨i,hi,rfl,G,u⟩:=hrel;obtain⟨U,V⟩:=a' (b' u ae.o);by_cases hlt:i<t.marks.length
      ·have bf:(0:Int)<=(i:Int):=UN
       have bg:(i:Int)<(t.marks.length:Int):=UN;have ad:=Hd (getD_at t.marks 0 i hlt);go_wp2_with fail;clear U V;go_loopw [4] (λav wq=> ∃k:Nat,k<=i/\av= UZ k/\Hi (mX t.marks t.marks[i] k=false)/\BW W wq) (λav _=>i-(intOf av).toNat)
       case atStart=>exact⟨0,iy _,rfl,rfl,u⟩
       case round=>
        clear u;obtain⟨k,a8,rfl,ah,u⟩:=hrel;by_cases a9:k<i
        ·obtain⟨b,off,aD,a5,bx,n1,aH⟩:=il (gZ.c' H.o.marks u) i hlt
         obtain⟨bq,bB,rfl,bw,bz,bA,aI⟩:=il (gZ.c' H.o.marks u) k UN;simp at aD;obtain⟨rfl,rfl⟩:=aD;have aL:=Hd (getD_at t.marks 0 k UN);have k0:(0:Int)<=(k:Int):=UN;have k1:(k:Int)<(t.marks.length:Int):=UN;have aM:(k:Int)<(i:Int):=UN;have aW:Hi (mX t.marks t.marks[i] (k+1)=(mX t.marks t.marks[i] k||(t.marks[i]==t.marks.getD k 0))):=rfl;have aV:=Hd (fun(h:(t.marks[i]==t.marks.getD k 0)=true)=>t9 h a9);generalize t.marks[i]=x at*
         generalize t.marks[k]' UN=y at*
         have bn:=g0 (b' u ae.o);have bo:=hW aH;have bp:=hW aI;clear aH aI;go_wp2;refine m6 ?_
         repeat (first|go_big_quiet_step (fail)|quiet_step (fail))
         refine lz ?_;intro bD a6;clear bn bo bp;have aF:=d' u a6;by_cases ai:x=y
         ·have aj:(x==y)=true:=by rw [iO];exact ai
          have a3:tY t.marks i=false:=by
           unfold tY;rw [ad.o,aV.o (by rw [aL.o];exact aj)];rfl
          have j:Hi (hF t=1):=mr (by rw [oz,jp a3 hlt,ll,ll,kH]);clear ai;go_wp2;go_ret;exact⟨g2 j.o.symm,d' z.o aF⟩
         ·have aj:(x==y)=false:=by rw [je];exact ai
          have ab:Hi (mX t.marks x (k+1)=false):=Hd (by rw [aW.o,ah.o,aL.o,aj];rfl);clear ai;go_wp2;go_roundw
          case rel=>exact⟨k+1,UN,by go_num,ab,aF⟩
          case measure=>exact UY
        ·obtain rfl:k=i:=UN
         have ab:Hi (jv (tY t.marks) (k+1)=true):=lg G.o (by unfold tY;rw [ad.o,ah.o];rfl);go_wp2;go_roundw
         case rel=>exact⟨k+1,UN,by go_num,ab,u⟩
         case measure=>exact UY
      ·obtain rfl:i=t.marks.length:=UN
       have ay:Hi (k5 t.marks=true):=Hd (by rw [oz,iP aN,aw.o,G.o];rfl);clear G aw;go_wp2_with fail;clear U V;go_loopw [5] (λK wr=> ∃i:Nat,i<=t.outs.length/\K= UZ i/\Hi ((t.outs.take i).all tA=true)/\BW W wr) (λK _=>t.outs.length-(intOf K).toNat)
       case atStart=>exact⟨0,iy _,rfl,rfl,u⟩
       case round=>
        clear u;obtain⟨k,a8,rfl,G,u⟩:=hrel;obtain⟨U,V⟩:=a' (b' u ae.o);by_cases hlt:k<t.outs.length
        ·obtain⟨b,off,ca,cc,rfl, -,a5,k1,aM,bh,ap,c0,c1,c2,aZ⟩:=mp (mK.c' H.o.outs u) k hlt
         obtain⟨ah,be⟩:=ik (all_false tA t.outs k hlt) (jW tA t.outs k hlt);have bf:(0:Int)<=(k:Int):=UN;have bg:(k:Int)<(t.outs.length:Int):=UN;generalize t.outs[k]=o at*;have bb:=(g4.lens ap).2;unfold maxLen at bb;have Y:Hi (tA o=(jC o.g6&&(rk o.p0 o.p1&&(decide (o.ha.length=3)&&h' o.ha)))):=rfl;have al:=jc wr (.cells #[o.g6,o.p0,o.p1,.slice ca o.ha.length cc] 156);obtain⟨aT,aU⟩:=ik (gZ.c' ap al) (gY wr (.cells #[o.g6,o.p0,o.p1,.slice ca o.ha.length cc] 156));have aE:=d' u al;have p0:=(iE aM).1;have p1:=(iE bh).1;clear ap al;have af:=Hd (fun(h:tA o=false)=>(mr (t:=t) (by unfold lL;rw [ah.o h,ll,kH,ll]):hF t=1));by_cases aJ:o.g6<18446744069414584321
         ·have aP:Hi (jC o.g6=true):=iP aJ
          go_wp2_with fail;clear c0 c1 c2 aZ U V;generalize wr.alloc (.cells #[o.g6,o.p0,o.p1,.slice ca o.ha.length cc] 156)=bm at*
          refine UR (EI bm o.p0 o.p1 p0 p1) λbk hb5=> ?_;have ao:=d' aE hb5;obtain⟨bE,bF⟩:=a' (b' hb5 aU.o)
          cases ad:rk o.p0 o.p1 with
          |false=>
           have j:=Hd (af.o (by rw [Y.o,ad,kH,ll]));go_wp2;go_ret;exact⟨g2 j.o.symm,d' z.o ao⟩
          |true=>
           by_cases ag:o.ha.length=3
           ·have aQ:=Hd (iP ag)
            have b3:((o.ha.length:Int)==3)=true:=(by rw [iO];omega);have aY:((o.ha.length:Int) != 3)=false:=(by rw [jt];omega);clear ag;go_wp2_with fail;refine UR (sT S bk ca _ cc o.ha rfl (gZ.c' aT.o hb5)) λbC a4=> ?_;have aG:=d' ao a4
            cases aK:h' o.ha with
            |true=>
             have ab:Hi ((t.outs.take (k+1)).all tA=true):=Hd (by rw [be.o,G.o,Y.o,aP.o,ad,aQ.o,aK];rfl);go_wp2;go_roundw
             case rel=>exact⟨k+1,UN,by go_num,ab,aG⟩
             case measure=>exact UY
            |false=>
             have j:=Hd (af.o (by rw [Y.o,aK,ll,ll,ll]));go_wp2;go_ret;exact⟨g2 j.o.symm,d' z.o aG⟩
           ·have j:=Hd (af.o (by rw [Y.o,iH ag,kH,ll,ll]))
            have b3:((o.ha.length:Int)==3)=false:=(by rw [je];omega);have aY:((o.ha.length:Int) != 3)=true:=(by rw [iB];omega);clear ag;go_wp2;go_ret;exact⟨g2 j.o.symm,d' z.o ao⟩
         ·have j:=Hd (af.o (by rw [Y.o];unfold jC;rw [iH aJ,kH]))
          go_wp2;go_ret;exact⟨g2 j.o.symm,d' z.o aE⟩
        ·obtain rfl:k=t.outs.length:=UN
         have az:Hi (lL t.outs=true):=by
          have:=G.o;rw [Sw]at this;show _=_;unfold lL;rw [iP aO,this];rfl
         have aX:Hi (hF t=if (t.iK<=4294967295/\t.wd<=4294967295/\t.jn<=4294967295)/\ ¬(0<t.iK/\0<t.wd)/\(t.iK=0->t.e'=0/\t.marks.length≠0/\(t.wd=0->t.acc=0))/\0<=t.exp/\t.exp<=1048576 then (if t.proof.length<=1048576 then 0 else 3)else 1):=Dg ay.o az.o ax.o H.o.iK H.o.wd;have a7:=d' z.o u;have d1:=iE H.o.iK;have br:=iE H.o.wd;have bt:=iE H.o.acc;have bv:=iE H.o.e';clear G az ay ax;go_wp2_with fail
         all_goals go_ret
         all_goals refine⟨g2 ?_,a7⟩
         all_goals rw [aX.o]
         all_goals (simp only [iO,iB,je,jt,ne_eq]at*)
         all_goals first
          |(rw [g3 UN];done)
          |(rename_i au _;simp only [<-List.length_eq_zero_iff]at au;rw [g3 UN];done)
          |(rename_i au;simp only [<-List.length_eq_zero_iff]at au;rw [g3 UN];done)
          |(rw [g7 UN,g7 UN];done)
          |(rw [g7 UN,g3 UN];done)
  ·have bj: ¬(t.outs.length:Int)<=4:=UN
   have j:Hi (hF t=1):=mr (by unfold lL;rw [iH aO,kH,kH,ll]);go_wp2;go_ret;exact⟨g2 j.o.symm,z.o⟩
 ·have bi: ¬(t.marks.length:Int)<=4:=UN
  have j:Hi (hF t=1):=mr (by rw [oz,iH aN,kH,kH]);go_wp2;go_ret;exact⟨g2 j.o.symm,z.o⟩
theorem tH {t:jO}(K:hF t=0):kn t.marks t.acc t.e'=if t.marks.length=0 then iD 5 [t.acc,t.e']else t.marks.getD 0 0:=by
 have y:(k5 t.marks&&(lL t.outs&&(kK t&&oh t)))=true:=by
  cases h:(k5 t.marks&&(lL t.outs&&(kK t&&oh t)))with
  |true=>rfl
  |false=>rw [mr h]at K;cases K
 simp only [kg]at y;obtain⟨u, -,U, -⟩:=y;have h1:=mU U;rw [oz]at u;simp only [kg]at u;have z:=u.2.1;unfold kn;by_cases j:t.marks.length=0
 ·rw [g7 j,g7 j,g7 h1.2.1]
 ·rw [g3 j,g3 j,g7]
  cases G:jC (t.marks.getD 0 0)with
  |true=>exact mU G
  |false=>
   have:h' t.marks=false:=jp (k:=0) G UN;rw [this]at z;cases z
theorem Dz (S:UO)(w:World)(t:jO)(ma oa pa:UP)(mc oc pc:Nat)(h:ks S w t ma oa pa mc oc pc)(z:hF t=0):
 Calls prog 138 #[.agg (jQ t ma mc oa oc pa pc)] w (Rt w (U2 (kn t.marks t.acc t.e'))):=by
 have K:Hi (kn t.marks t.acc t.e'=if t.marks.length=0 then iD 5 [t.acc,t.e']else t.marks.getD 0 0):=tH z;have y:=(jc w (.cells (jQ t ma mc oa oc pa pc) 87));have V:=Hd (gY w (.cells (jQ t ma mc oa oc pa pc) 87));obtain⟨G,H⟩:=ik y (h.c' y);have ad:=(g4.lens h.marks).2;unfold maxLen at ad;have Y:=Hd z;clear h y z;go_in;go_wp2_with fail;generalize w.alloc (.cells (jQ t ma mc oa oc pa pc) 87)=W at*
 refine UR (mw S W t ma oa pa mc oc pc H.o) λw1 hb1=> ?_;rw [Y.o];obtain⟨ai,aj⟩:=a' (b' hb1 V.o);by_cases j:t.marks.length=0
 ·have af: ¬(0:Int)<(t.marks.length:Int):=UN
  have u:Hi (kn t.marks t.acc t.e'=iD 5 [t.acc,t.e']):=Hd (by rw [K.o,g7 j]);have ab:=Hd (tD w1 24 H.o.acc H.o.e');clear j;go_wp2_with fail;refine UR (oy 5 UN (λ_=>True) _ _ _ [t.acc,t.e'] ab.o US) λw2 hb2=> ?_;go_wp2;go_ret;exact⟨g2 u.o.symm,d' G.o (d' (hd hb1 _) hb2)⟩
 ·have U:0<t.marks.length:=UN
  have af:(0:Int)<(t.marks.length:Int):=UN;obtain⟨b,off,rfl,ag,ah,n1,ae⟩:=il (gZ.c' H.o.marks hb1) 0 U;rw [xE]at ae;have u:Hi (kn t.marks t.acc t.e'=t.marks[0]):=Hd (by rw [K.o,g3 j,getD_at t.marks 0 0 U]);clear j;generalize t.marks[0]=m at*;go_wp2;go_ret;exact⟨g2 u.o.symm,d' G.o hb1⟩
def zV (o:og):Nat->List Int
 |0=> []
 |1=> [o.g6]
 |2=> [o.g6,o.p0]
 |_=> [o.g6,o.p0,o.p1]
def tV (t:jO):Nat->List Int
 |0=> []
 |1=> [t.iK]
 |2=> [t.iK,t.wd]
 |3=> [t.iK,t.wd,t.jn]
 |4=> [t.iK,t.wd,t.jn,t.acc]
 |_=> [t.iK,t.wd,t.jn,t.acc,t.e']
def rm (l:List Int):List Int:=hN 4 l.length++l
theorem Ft (l:List Int):(rm l).length=4+l.length:=by simp [rm,hA]
theorem DD (S:UO)(w:World)(la:UP)(lc:Nat)(l:List Int)(j:hD.rel S w [.slice la l.length lc] l)(u:l.length<=100000000):Calls prog 149 #[.slice la l.length lc] w (lJ w.heap.size w (rm l)):=EW S w la lc l j u
theorem CJ (w:World)(n:Int)(j:0<=n)(h1:n<=4294967295):Calls prog 48 #[UZ n] w (lJ w.heap.size w (hN 4 n)):=by
 obtain⟨m,rfl⟩:=lv j;exact pS w m UN
theorem rF: ∀(k:Nat) {a b:Int},0<=a->0<=b->a<256^k->b<256^k->hN k a=hN k b->a=b
 |0,a,b,y,z,j,u,_=>by simp at j u;omega
 |k+1,a,b,y,z,j,u,h=>by
  simp only [hN,List.cons.injEq]at h;have h1:a / 256<256^k:=by
   rw [qR]at j;exact Int.ediv_lt_of_lt_mul UN j
  have h2:b / 256<256^k:=by
   rw [qR]at u;exact Int.ediv_lt_of_lt_mul UN u
  have:=rF k UN UN h1 h2 h.2;omega
theorem oV: ∀ {l m:List Int},(∀x∈l,iZ x)->(∀x∈m,iZ x)->ix l=ix m->l=m
 | [],[],_,_,_=>rfl
 | [],y::m,_,_,h=>by simp [ix,hN]at h
 |x::l,[],_,_,h=>by simp [ix,hN]at h
 |x::l,y::m,K,U,h=>by
  simp only [ix]at h;obtain⟨h1,h2⟩:=Ua h (by rw [hA,hA]);have u:=iE (K x US);have G:=iE (U y US);rw [rF 8 u.1 G.1 (by have:=u.2;omega) (by have:=G.2;omega) h1,oV (λz j=>K z (by simp [j])) (λz j=>U z (by simp [j])) h2]
theorem z6 (w:World):(zeroValue 4).run prog w= .ok (.bool false) w:=by
 have j:(prog.info? 4).map (·.zero)=some (some (.bool false)):=UQ
 obtain⟨i,hi,u⟩:=vX.1 j;simp [zeroValue,typeInfo,hi,u]
structure Ph (o:og):Prop where
 c:iZ o.g6
 p0:iZ o.p0
 p1:iZ o.p1
 ci: ∀x∈o.ha,iZ x
structure Nb (t:jO):Prop where
 g5:iZ t.g5
 marks: ∀x∈t.marks,iZ x
 outs: ∀o∈t.outs,Ph o
 iK:iZ t.iK
 wd:iZ t.wd
 jn:iZ t.jn
 acc:iZ t.acc
 e':iZ t.e'
theorem An: ∀ {l m:List og},l.length=m.length->(∀o∈l,Ph o)->(∀o∈m,Ph o)->(∀i (hi:i<l.length) (U:i<m.length),l[i].ha.length=m[i].ha.length)-> ∀ {u v:List Int},mV l++u=mV m++v->l=m/\u=v
 | [],[],_,_,_,_,u,v,h=>⟨rfl,by simpa [mV]using h⟩
 | [],_::_,j,_,_,_,_,_,_=>by simp at j
 |_::_,[],j,_,_,_,_,_,_=>by simp at j
 |a::l,b::m,j,V,Y,K,u,v,h=>by
  have ad:=K 0 US US;have ae:a.ha.length=b.ha.length:=ad;simp only [mV,Tt]at h;obtain⟨h1,h2⟩:=Ua h (by rw [yb,yb,ae]);obtain⟨af,ag⟩:=An (by simpa using j) (λo G=>V o (by simp [G])) (λo G=>Y o (by simp [G])) (λi hi U=>K (i+1) (by simpa using hi) (by simpa using U)) h2;have y:=V a US;have z:=Y b US;unfold AV lp at h1;obtain⟨ah,ai⟩:=Ua h1 (by rw [jV,jV];rfl);obtain⟨-,aj⟩:=Ua ai (by rw [hA,hA]);have ab:=oV (l:= [a.g6,a.p0,a.p1]) (m:= [b.g6,b.p0,b.p1]) (by simp;exact⟨y.c,y.p0,y.p1⟩) (by simp;exact⟨z.c,z.p0,z.p1⟩) ah;have ak:=oV y.ci z.ci aj;simp only [List.cons.injEq,and_true]at ab;refine⟨?_,ag⟩;rw [af];congr 1
  cases a;cases b
  simp_all
theorem JE {t t':jO} (ok:Nb t) (j:Nb t') (ah:t.marks.length<=4294967295) (ai:t'.marks.length<=4294967295) (aj:t.proof.length<=4294967295) (ak:t'.proof.length<=4294967295)
 (V:t.outs.length=t'.outs.length) (af:t.exp=t'.exp) (U: ∀i (hi:i<t.outs.length) (ag:i<t'.outs.length),t.outs[i].ha.length=t'.outs[i].ha.length) (h:encS t t.proof=encS t' t'.proof):t=t':=by
 unfold encS lp at h;simp only [Tt]at h;obtain⟨h1,h⟩:=Ua h (by rw [hA,hA]);obtain⟨h2,h⟩:=Ua h (by rw [hA,hA]);have u:=iE ok.g5;have y:=iE j.g5;have Y:=rF 8 u.1 y.1 (by have:=u.2;omega) (by have:=y.2;omega) h1;have ab:=rF 4 (a:=(t.marks.length:Int)) (b:=(t'.marks.length:Int)) UN UN UN UN h2;obtain⟨G,h⟩:=Ua h (by rw [jV,jV];omega);have ad:=oV ok.marks j.marks G;obtain⟨-,h⟩:=Ua h (by rw [hA,hA]);obtain⟨ae,h⟩:=An V ok.outs j.outs U h;obtain⟨K,h⟩:=Ua h (by rw [jV,jV];rfl);have z:=oV (l:= [t.iK,t.wd,t.jn,t.acc,t.e']) (m:= [t'.iK,t'.wd,t'.jn,t'.acc,t'.e']) (by simp;exact⟨ok.iK,ok.wd,ok.jn,ok.acc,ok.e'⟩) (by simp;exact⟨j.iK,j.wd,j.jn,j.acc,j.e'⟩) K;obtain⟨-,h⟩:=Ua h (by rw [hA,hA]);obtain⟨-,h⟩:=Ua h (by rw [hA,hA]);simp only [List.cons.injEq,and_true]at z
 cases t;cases t'
 simp_all
def nx (n:Int):Int:=if n<0\/4294967296<=n then 0 else n
def zk (t:jO):List Int:=encS ⟨t.g5,t.marks,t.outs,t.iK,t.wd,t.jn,t.acc,t.e',nx t.exp,t.proof⟩ t.proof
theorem Jf (w:World)(n:Int):Calls prog 48 #[UZ n] w (lJ w.heap.size w (hN 4 (nx n))):=by
 by_cases h:n<0\/4294967296<=n
 ·have z:Hi (nx n=0):=g7 h
  have G:IntKind.u64.wrap (0:Int)=0:=(by rw [jP];rfl);go_in;rcases h with h|h
  ·go_wp2_with fail
   refine(i3 w 0 UN UN 4 UN).mono ?_;intro e w1 h;obtain⟨a,cap,rfl,j, -,y⟩:=h.read;have u:=Hd j;clear j h;go_wp2;go_ret;rw [z.o];exact⟨_,rfl,u.o,y⟩
  ·have K: ¬n<0:=UN
   go_wp2_with fail;refine(i3 w 0 UN UN 4 UN).mono ?_;intro e w1 h;obtain⟨a,cap,rfl,j, -,y⟩:=h.read;have u:=Hd j;clear j h;go_wp2;go_ret;rw [z.o];exact⟨_,rfl,u.o,y⟩
 ·rw [show nx n=n from g3 h]
  exact CJ w n UN UN
theorem rM (S:UO)(w:World)(t:jO)(ma oa pa:UP)(mc oc pc:Nat)(h:ks S w t ma oa pa mc oc pc)(l1:t.marks.length<=1000)(l2:t.outs.length<=1000)(l3: ∀o∈t.outs,o.ha.length<=1000)(l4:t.proof.length<=2000000):
 Calls prog 100 #[.agg (jQ t ma mc oa oc pa pc)] w λe w'=> ∃a cap,e= .returned (.slice a (zk t).length cap)/\hD.rel (λ_=>True) w' [.slice a (zk t).length cap] (zk t)/\BW w w':=by
 have Pc:=(jc w (.cells (jQ t ma mc oa oc pa pc) 87));have M9:=Hd (gY w (.cells (jQ t ma mc oa oc pa pc) 87));obtain⟨Rs,H⟩:=ik Pc (h.c' Pc);have d0:=iE h.g5;clear h Pc;go_in;go_wp2_with fail;generalize w.alloc (.cells (jQ t ma mc oa oc pa pc) 87)=W at*
 refine(i3 W t.g5 d0.1 d0.2 8 UN).mono ?_;intro e w0 h;obtain⟨a0,c0,rfl,ho0, -,hb0⟩:=h.read;have SJ:=Hd ho0;clear h ho0;have hn0:(hN 8 t.g5).length=8:=hA _ _;obtain⟨x0,x1⟩:=a' (b' hb0 M9.o);go_wp2_with fail;refine(q8 S w0 ma mc t.marks (gZ.c' H.o.marks hb0) UN).mono ?_;intro e Sh h;obtain⟨Sv,Ss,rfl, -,hr1,NM⟩:=h.read;have HR1:=Hd hr1;have hbk1:=d' hb0 NM;have Qm:=hbk1.size;have QZ:=Hd (SJ.o.c' NM);clear h hr1;have L3:Hi ((hN 8 t.g5).length+(lp t.marks).length<=maxLen/\((hN 8 t.g5).length+(lp t.marks).length)*1<=140737488355328):=by simp only [kC,hA];unfold maxLen;constructor<;>omega
 go_wp2_with (at_builtin;refine kw (k:= .u8) (v:=(.slice a0 (hN 8 t.g5).length c0)) (u:= .slice Sv (lp t.marks).length Ss) (w0:=W) (B:=W.heap.size) (wr:=Sh) (xs:=(hN 8 t.g5)) (ys:=lp t.marks) rfl _ _ rfl iU rfl rfl hbk1 Qm QZ.o HR1.o L3.o.1 L3.o.2 ?_)
 intro v1 w1 ho1 hb1;have hp1:=Own.mono ho1 (F':=λx=>False\/W.heap.size<=x) λx _ h=>by first|exact h|exact .inr h
 obtain⟨L1,hL1⟩:=iF ((hN 8 t.g5)++lp t.marks);have Mc:=Hd hL1;have hn1:L1.length=(hN 8 t.g5).length+(lp t.marks).length:=by rw [<-hL1,U3]
 rw [hL1]at hp1;have O1:=Hd hp1;clear hp1 ho1 hL1;rw [kC]at hn1;clear x0 x1;obtain⟨x0,x1⟩:=a' (b' hb1 M9.o);go_wp2_with fail;refine(pS w1 t.outs.length UN).mono ?_;intro e Sg h;obtain⟨St,Sr,rfl, -,hr2,hbc2⟩:=h.read;have HR2:=Hd hr2;have hbk2:=d' hb1 hbc2;have Ql:=hbk2.size;have QY:=Hd (O1.o.c' hbc2);clear h hr2;have L0:Hi (L1.length+(hN 4 (t.outs.length:Int)).length<=maxLen/\(L1.length+(hN 4 (t.outs.length:Int)).length)*1<=140737488355328):=by simp only [hA];unfold maxLen;constructor<;>omega
 go_wp2_with (at_builtin;refine kw (k:= .u8) (v:=v1) (u:= .slice St (hN 4 (t.outs.length:Int)).length Sr) (w0:=W) (B:=W.heap.size) (wr:=Sg) (xs:=L1) (ys:=hN 4 (t.outs.length:Int)) rfl _ _ rfl iU rfl rfl hbk2 Ql QY.o HR2.o L0.o.1 L0.o.2 ?_)
 intro v2 w2 ho2 hb2;have hp2:=Own.mono ho2 (F':=λx=>False\/W.heap.size<=x) λx _ h=>by first|exact h|exact .inr h
 obtain⟨L2,hL2⟩:=iF (L1++hN 4 (t.outs.length:Int));have HL2:=Hd hL2;have hn2:L2.length=L1.length+(hN 4 (t.outs.length:Int)).length:=by rw [<-hL2,U3]
 rw [hL2]at hp2;have RU:=Hd hp2;clear hp2 ho2 hL2;rw [hA]at hn2;clear x0 x1;go_wp2;go_loopw [3,4] (λvb vi wr=> ∃(k:Nat) (L:List Int),k<=t.outs.length/\vi= UZ k/\Own ve W.heap.size 5 (λx=>False\/W.heap.size<=x) wr vb L/\BW W wr/\Hi (L=L2++mV (t.outs.take k))/\L.length<=20000+9000*k) (λ_ vi _=>t.outs.length-(intOf vi).toNat)
 case atStart=>exact⟨0,L2,iy _,rfl,RU.o,hb2,by show _=_;simp [mV],UN⟩
 case round=>
  obtain⟨k,L,hk,rfl,hor,hbr,hLk,Tf⟩:=hrel;clear hb2 RU;by_cases hlt:k<t.outs.length
  ·obtain⟨b,off,ca,cc,rfl, -,hbl,k1,k2,k3,hci,Pb,q1',q2',q3'⟩:=mp H.o.outs k hlt
   have c0':=(hbr.cell (ko Pb)).trans Pb;have c1':=(hbr.cell (ko q1')).trans q1';have c2':=(hbr.cell (ko q2')).trans q2';have c3':=(hbr.cell (ko q3')).trans q3';clear Pb q1' q2' q3';obtain⟨x0,x1⟩:=a' (b' hbr M9.o);have i0:(0:Int)<=(k:Int):=UN;have i1:(k:Int)<(t.outs.length:Int):=UN;have HT:Hi (mV (t.outs.take (k+1))=mV (t.outs.take k)++AV t.outs[k]):=Hd (by rw [z4 hlt,t7]);have hcl:=l3 t.outs[k] (z3 hlt);generalize t.outs[k]=o at*;obtain⟨SN,HK,M7⟩:=kT hci (oJ k1 (oJ k2 k3)) hor;have hbn:=hd (jc wr (.cells #[o.g6,o.p0,o.p1,.slice ca o.ha.length cc] 156)) (.cells #[o.g6,o.p0,o.p1] 24);obtain⟨HX0,J',SH⟩:=kT (ji wr (.cells #[o.g6,o.p0,o.p1,.slice ca o.ha.length cc] 156) (.cells #[o.g6,o.p0,o.p1] 24)) (d' hbr hbn) (M7.o.c' hbn);have RW:=Hd (λj (hj:j=wr.heap.size\/j=wr.heap.size+1)=>(λhe=>by have:=(M7.o.lt he).1;omega:u3.ownBlock≠some j));clear hor hci hbn k1 k2 k3;go_wp2_with fail;clear x0 x1 c0' c1' c2' c3';generalize (wr.alloc (.cells #[o.g6,o.p0,o.p1,.slice ca o.ha.length cc] 156)).alloc (.cells #[o.g6,o.p0,o.p1] 24)=wl at*;obtain⟨X,hX⟩:=iF (wr.heap.size);have Te:X+1<wl.heap.size:=(by rw [<-hX];exact ii HX0.o.1);rw [hX]at HX0 RW⊢;go_loopw [3,7] (λvb vk wq=> ∃(k2:Nat) (M2:List Int),k2<=3/\vk= UZ k2/\Own ve W.heap.size 5 (λx=>False\/W.heap.size<=x) wq vb M2/\BW W wq/\Hi (M2=L++ix (zV o k2))/\wq.heap[X]? =some (.cells #[o.g6,o.p0,o.p1,.slice ca o.ha.length cc] 156 (0,0))/\wq.heap[X+1]? =some (.cells #[o.g6,o.p0,o.p1] 24 (0,0))/\(∀j,j=X\/j=X+1->vb.ownBlock≠some j)/\M2.length<=L.length+8*k2) (λ_ vk _=>3-(intOf vk).toNat)
   case atStart=>exact⟨0,L,UN,rfl,SH.o,J'.o,by show _=_;simp [zV,ix],HX0.o.2,HX0.o.1,RW.o,UN⟩
   case round=>
    obtain⟨k2,M2,hk2,rfl,hoq,hbq,D4,hxb,hxl,hno,hm2⟩:=hrel;obtain⟨Ia,zO,xt,M5⟩:=oX hoq hno hxb hxl;have Td:=ii hxl;clear hoq hno;by_cases h3:k2<3
    ·have hcase:k2=0\/k2=1\/k2=2:=by omega
     rcases hcase with h0|h0|h0
     ·obtain rfl:k2=0:=UN
      have x0:=M5.o;obtain⟨b0,b1⟩:=a' hxl;have d:=iE HK.o.1;go_wp2_with fail;refine(i3 wr o.g6 d.1 d.2 8 UN).mono ?_;intro e PG h;obtain⟨QL,Qz,rfl, -,Nw,Cl⟩:=h.read;have QX:=Hd Nw;have LO:=d' hbq Cl;have Of:=LO.size;have OC:=Hd (Ia.o.c' Cl);clear h Nw;have IN:Hi (M2.length+(hN 8 o.g6).length<=maxLen/\(M2.length+(hN 8 o.g6).length)*1<=140737488355328):=(by simp only [hA];unfold maxLen;constructor<;>omega);go_wp2_with (at_builtin;refine lN (k:= .u8) (v:=u3) (u:= .slice QL (hN 8 o.g6).length Qz) (w0:=W) (B:=W.heap.size) (wr:=PG) (xs:=M2) (ys:=hN 8 o.g6) rfl _ _ rfl iU rfl rfl LO Of OC.o QX.o IN.o.1 IN.o.2 ?_)
      intro v20 S9 NH Qk NK P5;have Mq:=Own.mono NH (F':=λx=>False\/W.heap.size<=x) λx _ h=>(by first|exact h|exact .inr h);have D6:=Hd (λj (hj:j=X\/j=X+1)=>(by
       rcases P5 with h|h
       ·rw [h];exact zO.o j hj
       ·rw [h];intro he;have he':=jR he;have:=Cl.size;rcases hj with rfl|rfl<;>omega:v20.ownBlock≠some j))
      have Nd:=Hd (hE NK (b' Cl xt.o) (zO.o X (.inl rfl)));have tL:=Hd (hE NK (b' Cl hxl) (zO.o (X+1) (.inr rfl)));have HZ:Hi (M2++hN 8 o.g6=L++ix [o.g6]):=Hd (by rw [D4.o];simp [ix,zV]);obtain⟨RK,Kq⟩:=iF (M2++hN 8 o.g6);have Rq:=Hd Kq;have PX:RK.length=M2.length+(hN 8 o.g6).length:=(by rw [<-Kq,U3]);rw [Kq]at Mq;have Re:=Hd Mq;clear Mq NH Kq;go_wp2;go_roundw
      case rel=>exact⟨1,RK,UN,by go_num,Re.o,Qk,by show _=_;rw [<-Rq.o];exact HZ.o,Nd.o,tL.o,D6.o,by rw [PX,hA];omega⟩
      case measure=>simp [intOf]
     ·obtain rfl:k2=1:=UN
      have x0:=M5.o;obtain⟨b0,b1⟩:=a' hxl;have d:=iE HK.o.2.1;go_wp2_with fail;refine(i3 wr o.p0 d.1 d.2 8 UN).mono ?_;intro e PF h;obtain⟨QK,Qy,rfl, -,Nv,Ck⟩:=h.read;have QW:=Hd Nv;have LN:=d' hbq Ck;have Oe:=LN.size;have OB:=Hd (Ia.o.c' Ck);clear h Nv;have IM:Hi (M2.length+(hN 8 o.p0).length<=maxLen/\(M2.length+(hN 8 o.p0).length)*1<=140737488355328):=(by simp only [hA];unfold maxLen;constructor<;>omega);go_wp2_with (at_builtin;refine lN (k:= .u8) (v:=u3) (u:= .slice QK (hN 8 o.p0).length Qy) (w0:=W) (B:=W.heap.size) (wr:=PF) (xs:=M2) (ys:=hN 8 o.p0) rfl _ _ rfl iU rfl rfl LN Oe OB.o QW.o IM.o.1 IM.o.2 ?_)
      intro v21 S8 NG Qj NJ P4;have Mp:=Own.mono NG (F':=λx=>False\/W.heap.size<=x) λx _ h=>(by first|exact h|exact .inr h);have D6:=Hd (λj (hj:j=X\/j=X+1)=>(by
       rcases P4 with h|h
       ·rw [h];exact zO.o j hj
       ·rw [h];intro he;have he':=jR he;have:=Ck.size;rcases hj with rfl|rfl<;>omega:v21.ownBlock≠some j))
      have Nd:=Hd (hE NJ (b' Ck xt.o) (zO.o X (.inl rfl)));have tL:=Hd (hE NJ (b' Ck hxl) (zO.o (X+1) (.inr rfl)));have HZ:Hi (M2++hN 8 o.p0=L++ix [o.g6,o.p0]):=Hd (by rw [D4.o];simp [ix,zV]);obtain⟨RJ,Kp⟩:=iF (M2++hN 8 o.p0);have Rp:=Hd Kp;have PW:RJ.length=M2.length+(hN 8 o.p0).length:=(by rw [<-Kp,U3]);rw [Kp]at Mp;have Rd:=Hd Mp;clear Mp NG Kp;go_wp2;go_roundw
      case rel=>exact⟨2,RJ,UN,by go_num,Rd.o,Qj,by show _=_;rw [<-Rp.o];exact HZ.o,Nd.o,tL.o,D6.o,by rw [PW,hA];omega⟩
      case measure=>simp [intOf]
     ·obtain rfl:k2=2:=UN
      have x0:=M5.o;obtain⟨b0,b1⟩:=a' hxl;have d:=iE HK.o.2.2;go_wp2_with fail;refine(i3 wr o.p1 d.1 d.2 8 UN).mono ?_;intro e PE h;obtain⟨QJ,Qx,rfl, -,Nu,Cj⟩:=h.read;have QV:=Hd Nu;have LM:=d' hbq Cj;have Od:=LM.size;have OA:=Hd (Ia.o.c' Cj);clear h Nu;have IL:Hi (M2.length+(hN 8 o.p1).length<=maxLen/\(M2.length+(hN 8 o.p1).length)*1<=140737488355328):=(by simp only [hA];unfold maxLen;constructor<;>omega);go_wp2_with (at_builtin;refine lN (k:= .u8) (v:=u3) (u:= .slice QJ (hN 8 o.p1).length Qx) (w0:=W) (B:=W.heap.size) (wr:=PE) (xs:=M2) (ys:=hN 8 o.p1) rfl _ _ rfl iU rfl rfl LM Od OA.o QV.o IL.o.1 IL.o.2 ?_)
      intro v22 S7 NF Qi NI P3;have Mn:=Own.mono NF (F':=λx=>False\/W.heap.size<=x) λx _ h=>(by first|exact h|exact .inr h);have D6:=Hd (λj (hj:j=X\/j=X+1)=>(by
       rcases P3 with h|h
       ·rw [h];exact zO.o j hj
       ·rw [h];intro he;have he':=jR he;have:=Cj.size;rcases hj with rfl|rfl<;>omega:v22.ownBlock≠some j))
      have Nd:=Hd (hE NI (b' Cj xt.o) (zO.o X (.inl rfl)));have tL:=Hd (hE NI (b' Cj hxl) (zO.o (X+1) (.inr rfl)));have HZ:Hi (M2++hN 8 o.p1=L++ix [o.g6,o.p0,o.p1]):=Hd (by rw [D4.o];simp [ix,zV]);obtain⟨RI,Ko⟩:=iF (M2++hN 8 o.p1);have Ro:=Hd Ko;have PV:RI.length=M2.length+(hN 8 o.p1).length:=(by rw [<-Ko,U3]);rw [Ko]at Mn;have Rc:=Hd Mn;clear Mn NF Ko;go_wp2;go_roundw
      case rel=>exact⟨3,RI,UN,by go_num,Rc.o,Qi,by show _=_;rw [<-Ro.o];exact HZ.o,Nd.o,tL.o,D6.o,by rw [PV,hA];omega⟩
      case measure=>simp [intOf]
    ·obtain rfl:k2=3:=UN
     obtain⟨b0,b1⟩:=a' hxb;go_wp2_with fail;refine(q8 S wr ca cc o.ha (gZ.c' SN.o hbq) UN).mono ?_;intro e PD h;obtain⟨QI,Qw,rfl, -,Nt,LR⟩:=h.read;have QU:=Hd Nt;have LL:=d' hbq LR;have Oc:=LL.size;have Oz:=Hd (Ia.o.c' LR);clear h Nt;have IK:Hi (M2.length+(lp o.ha).length<=maxLen/\(M2.length+(lp o.ha).length)*1<=140737488355328):=(by simp only [kC];unfold maxLen;constructor<;>omega);go_wp2_with (at_builtin;refine kw (k:= .u8) (v:=u3) (u:= .slice QI (lp o.ha).length Qw) (w0:=W) (B:=W.heap.size) (wr:=PD) (xs:=M2) (ys:=lp o.ha) rfl _ _ rfl iU rfl rfl LL Oc Oz.o QU.o IK.o.1 IK.o.2 ?_)
     intro v30 S6 NE Qh;have Mm:=Own.mono NE (F':=λx=>False\/W.heap.size<=x) λx _ h=>(by first|exact h|exact .inr h);obtain⟨Pi,Kn⟩:=iF (M2++lp o.ha);have Rn:=Hd Kn;have PU:Pi.length=M2.length+(lp o.ha).length:=(by rw [<-Kn,U3]);rw [Kn]at Mm;have Rb:=Hd Mm;clear Mm NE Kn;rw [kC]at PU;have HZ:Hi (Pi=L2++mV (t.outs.take (k+1))):=by
      show _=_;rw [<-Rn.o,D4.o,hLk.o,HT.o];simp only [AV,zV,Tt]
     go_wp2;go_roundw
     case rel=>exact⟨k+1,Pi,UN,by go_num,Rb.o,Qh,HZ,UN⟩
     case measure=>exact UY
  ·obtain rfl:k=t.outs.length:=UN
   have SL:Hi (L=L2++mV t.outs):=Hd (by rw [hLk.o,Sw]);have M7:=Hd hor;obtain⟨x0,x1⟩:=a' (b' hbr M9.o);have hb5:=hd hbr (.cells #[t.iK,t.wd,t.jn,t.acc,t.e'] 24);have vR:=Hd (gY wr (.cells #[t.iK,t.wd,t.jn,t.acc,t.e'] 24));have O0:=Hd (M7.o.c' (jc wr (.cells #[t.iK,t.wd,t.jn,t.acc,t.e'] 24)));have RV:Hi (u3.ownBlock≠some wr.heap.size):=λhe=>(by have:=(M7.o.lt he).1;omega);clear hor hLk;go_wp2_with fail;clear x0 x1;generalize wr.alloc (.cells #[t.iK,t.wd,t.jn,t.acc,t.e'] 24)=w5 at*;obtain⟨Y,hY⟩:=iF (wr.heap.size);have Tc:Y<w5.heap.size:=(by rw [<-hY];exact ii vR.o);rw [hY]at vR RV⊢;clear hY;go_loopw [3,9] (λvb vk wr=> ∃(k:Nat) (M2:List Int),k<=5/\vk= UZ k/\Own ve W.heap.size 5 (λx=>False\/W.heap.size<=x) wr vb M2/\BW W wr/\Hi (M2=L++ix (tV t k))/\wr.heap[Y]? =some (.cells #[t.iK,t.wd,t.jn,t.acc,t.e'] 24 (0,0))/\vb.ownBlock≠some Y/\M2.length<=L.length+8*k) (λ_ vk _=>5-(intOf vk).toNat)
   case atStart=>exact⟨0,L,UN,rfl,O0.o,hb5,by show _=_;simp [tV,ix],vR.o,RV.o,UN⟩
   case round=>
    clear hb5 hbr M7;obtain⟨k,M2,hk,rfl,hoq,hbr,D4,hyl,hno,hm2⟩:=hrel;obtain⟨Ia,zO⟩:=ik hoq hno;have hYl:=ii hyl;clear hoq hno;by_cases h5:k<5
    ·have hcase:k=0\/k=1\/k=2\/k=3\/k=4:=by omega
     rcases hcase with h0|h0|h0|h0|h0
     ·obtain rfl:k=0:=UN
      obtain⟨b0,b1⟩:=a' hyl;have d:=iE H.o.iK;go_wp2_with fail;refine(i3 wr t.iK d.1 d.2 8 UN).mono ?_;intro e PB h;obtain⟨QH,Qv,rfl, -,Ns,FP⟩:=h.read;have QT:=Hd Ns;have LK:=d' hbr FP;have Ob:=LK.size;have Oy:=Hd (Ia.o.c' FP);clear h Ns;have IJ:Hi (M2.length+(hN 8 t.iK).length<=maxLen/\(M2.length+(hN 8 t.iK).length)*1<=140737488355328):=(by simp only [hA];unfold maxLen;constructor<;>omega);go_wp2_with (at_builtin;refine lN (k:= .u8) (v:=u3) (u:= .slice QH (hN 8 t.iK).length Qv) (w0:=W) (B:=W.heap.size) (wr:=PB) (xs:=M2) (ys:=hN 8 t.iK) rfl _ _ rfl iU rfl rfl LK Ob Oy.o QT.o IJ.o.1 IJ.o.2 ?_)
      intro v40 S5 ND Qg P' P2;have Ml:=Own.mono ND (F':=λx=>False\/W.heap.size<=x) λx _ h=>(by first|exact h|exact .inr h);have D6:Hi (v40.ownBlock≠some Y):=by
       show _≠_;rcases P2 with h|h
       ·rw [h];exact zO.o
       ·rw [h];intro he;have he':=jR he;have:=FP.size;omega
      have tL:=Hd (hE P' (b' FP hyl) zO.o);have HZ:Hi (M2++hN 8 t.iK=L++ix [t.iK]):=Hd (by rw [D4.o];simp [ix,tV]);obtain⟨RH,Km⟩:=iF (M2++hN 8 t.iK);have Rm:=Hd Km;have PT:RH.length=M2.length+(hN 8 t.iK).length:=(by rw [<-Km,U3]);rw [Km]at Ml;have Ra:=Hd Ml;clear Ml ND Km;go_wp2;go_roundw
      case rel=>exact⟨1,RH,UN,by go_num,Ra.o,Qg,by show _=_;rw [<-Rm.o];exact HZ.o,tL.o,D6.o,by rw [PT,hA];omega⟩
      case measure=>simp [intOf]
     ·obtain rfl:k=1:=UN
      obtain⟨b0,b1⟩:=a' hyl;have d:=iE H.o.wd;go_wp2_with fail;refine(i3 wr t.wd d.1 d.2 8 UN).mono ?_;intro e PA h;obtain⟨QG,Qu,rfl, -,Nr,FO⟩:=h.read;have QS:=Hd Nr;have LJ:=d' hbr FO;have Oa:=LJ.size;have Ox:=Hd (Ia.o.c' FO);clear h Nr;have II:Hi (M2.length+(hN 8 t.wd).length<=maxLen/\(M2.length+(hN 8 t.wd).length)*1<=140737488355328):=(by simp only [hA];unfold maxLen;constructor<;>omega);go_wp2_with (at_builtin;refine lN (k:= .u8) (v:=u3) (u:= .slice QG (hN 8 t.wd).length Qu) (w0:=W) (B:=W.heap.size) (wr:=PA) (xs:=M2) (ys:=hN 8 t.wd) rfl _ _ rfl iU rfl rfl LJ Oa Ox.o QS.o II.o.1 II.o.2 ?_)
      intro v41 S4 NC Qf P9 P1;have Mk:=Own.mono NC (F':=λx=>False\/W.heap.size<=x) λx _ h=>(by first|exact h|exact .inr h);have D6:Hi (v41.ownBlock≠some Y):=by
       show _≠_;rcases P1 with h|h
       ·rw [h];exact zO.o
       ·rw [h];intro he;have he':=jR he;have:=FO.size;omega
      have tL:=Hd (hE P9 (b' FO hyl) zO.o);have HZ:Hi (M2++hN 8 t.wd=L++ix [t.iK,t.wd]):=Hd (by rw [D4.o];simp [ix,tV]);obtain⟨RG,Kl⟩:=iF (M2++hN 8 t.wd);have Rl:=Hd Kl;have PS:RG.length=M2.length+(hN 8 t.wd).length:=(by rw [<-Kl,U3]);rw [Kl]at Mk;have Q9:=Hd Mk;clear Mk NC Kl;go_wp2;go_roundw
      case rel=>exact⟨2,RG,UN,by go_num,Q9.o,Qf,by show _=_;rw [<-Rl.o];exact HZ.o,tL.o,D6.o,by rw [PS,hA];omega⟩
      case measure=>simp [intOf]
     ·obtain rfl:k=2:=UN
      obtain⟨b0,b1⟩:=a' hyl;have d:=iE H.o.jn;go_wp2_with fail;refine(i3 wr t.jn d.1 d.2 8 UN).mono ?_;intro e Pz h;obtain⟨QF,Qt,rfl, -,Nq,FN⟩:=h.read;have QR:=Hd Nq;have LI:=d' hbr FN;have N':=LI.size;have Ow:=Hd (Ia.o.c' FN);clear h Nq;have IH:Hi (M2.length+(hN 8 t.jn).length<=maxLen/\(M2.length+(hN 8 t.jn).length)*1<=140737488355328):=(by simp only [hA];unfold maxLen;constructor<;>omega);go_wp2_with (at_builtin;refine lN (k:= .u8) (v:=u3) (u:= .slice QF (hN 8 t.jn).length Qt) (w0:=W) (B:=W.heap.size) (wr:=Pz) (xs:=M2) (ys:=hN 8 t.jn) rfl _ _ rfl iU rfl rfl LI N' Ow.o QR.o IH.o.1 IH.o.2 ?_)
      intro v42 S3 NB Qe P8 P0;have Mj:=Own.mono NB (F':=λx=>False\/W.heap.size<=x) λx _ h=>(by first|exact h|exact .inr h);have D6:Hi (v42.ownBlock≠some Y):=by
       show _≠_;rcases P0 with h|h
       ·rw [h];exact zO.o
       ·rw [h];intro he;have he':=jR he;have:=FN.size;omega
      have tL:=Hd (hE P8 (b' FN hyl) zO.o);have HZ:Hi (M2++hN 8 t.jn=L++ix [t.iK,t.wd,t.jn]):=Hd (by rw [D4.o];simp [ix,tV]);obtain⟨RF,Kk⟩:=iF (M2++hN 8 t.jn);have Rk:=Hd Kk;have PR:RF.length=M2.length+(hN 8 t.jn).length:=(by rw [<-Kk,U3]);rw [Kk]at Mj;have Q8:=Hd Mj;clear Mj NB Kk;go_wp2;go_roundw
      case rel=>exact⟨3,RF,UN,by go_num,Q8.o,Qe,by show _=_;rw [<-Rk.o];exact HZ.o,tL.o,D6.o,by rw [PR,hA];omega⟩
      case measure=>simp [intOf]
     ·obtain rfl:k=3:=UN
      obtain⟨b0,b1⟩:=a' hyl;have d:=iE H.o.acc;go_wp2_with fail;refine(i3 wr t.acc d.1 d.2 8 UN).mono ?_;intro e Py h;obtain⟨QE,Qs,rfl, -,Np,FM⟩:=h.read;have QQ:=Hd Np;have LH:=d' hbr FM;have N9:=LH.size;have Ov:=Hd (Ia.o.c' FM);clear h Np;have IG:Hi (M2.length+(hN 8 t.acc).length<=maxLen/\(M2.length+(hN 8 t.acc).length)*1<=140737488355328):=(by simp only [hA];unfold maxLen;constructor<;>omega);go_wp2_with (at_builtin;refine lN (k:= .u8) (v:=u3) (u:= .slice QE (hN 8 t.acc).length Qs) (w0:=W) (B:=W.heap.size) (wr:=Py) (xs:=M2) (ys:=hN 8 t.acc) rfl _ _ rfl iU rfl rfl LH N9 Ov.o QQ.o IG.o.1 IG.o.2 ?_)
      intro v43 S2 NA Qd P7 PZ;have Mi:=Own.mono NA (F':=λx=>False\/W.heap.size<=x) λx _ h=>(by first|exact h|exact .inr h);have D6:Hi (v43.ownBlock≠some Y):=by
       show _≠_;rcases PZ with h|h
       ·rw [h];exact zO.o
       ·rw [h];intro he;have he':=jR he;have:=FM.size;omega
      have tL:=Hd (hE P7 (b' FM hyl) zO.o);have HZ:Hi (M2++hN 8 t.acc=L++ix [t.iK,t.wd,t.jn,t.acc]):=Hd (by rw [D4.o];simp [ix,tV]);obtain⟨RE,Kj⟩:=iF (M2++hN 8 t.acc);have Rj:=Hd Kj;have hn43:RE.length=M2.length+(hN 8 t.acc).length:=(by rw [<-Kj,U3]);rw [Kj]at Mi;have Q7:=Hd Mi;clear Mi NA Kj;go_wp2;go_roundw
      case rel=>exact⟨4,RE,UN,by go_num,Q7.o,Qd,by show _=_;rw [<-Rj.o];exact HZ.o,tL.o,D6.o,by rw [hn43,hA];omega⟩
      case measure=>simp [intOf]
     ·obtain rfl:k=4:=UN
      obtain⟨b0,b1⟩:=a' hyl;have d:=iE H.o.e';go_wp2_with fail;refine(i3 wr t.e' d.1 d.2 8 UN).mono ?_;intro e Px h;obtain⟨QD,Qr,rfl, -,Nn,FL⟩:=h.read;have QP:=Hd Nn;have LG:=d' hbr FL;have N8:=LG.size;have Ou:=Hd (Ia.o.c' FL);clear h Nn;have IF:Hi (M2.length+(hN 8 t.e').length<=maxLen/\(M2.length+(hN 8 t.e').length)*1<=140737488355328):=(by simp only [hA];unfold maxLen;constructor<;>omega);go_wp2_with (at_builtin;refine lN (k:= .u8) (v:=u3) (u:= .slice QD (hN 8 t.e').length Qr) (w0:=W) (B:=W.heap.size) (wr:=Px) (xs:=M2) (ys:=hN 8 t.e') rfl _ _ rfl iU rfl rfl LG N8 Ou.o QP.o IF.o.1 IF.o.2 ?_)
      intro v44 S1 Nz Qc P6 PY;have Mh:=Own.mono Nz (F':=λx=>False\/W.heap.size<=x) λx _ h=>(by first|exact h|exact .inr h);have D6:Hi (v44.ownBlock≠some Y):=by
       show _≠_;rcases PY with h|h
       ·rw [h];exact zO.o
       ·rw [h];intro he;have he':=jR he;have:=FL.size;omega
      have tL:=Hd (hE P6 (b' FL hyl) zO.o);have HZ:Hi (M2++hN 8 t.e'=L++ix [t.iK,t.wd,t.jn,t.acc,t.e']):=Hd (by rw [D4.o];simp [ix,tV]);obtain⟨RD,Ki⟩:=iF (M2++hN 8 t.e');have Ri:=Hd Ki;have PQ:RD.length=M2.length+(hN 8 t.e').length:=(by rw [<-Ki,U3]);rw [Ki]at Mh;have Q6:=Hd Mh;clear Mh Nz Ki;go_wp2;go_roundw
      case rel=>exact⟨5,RD,UN,by go_num,Q6.o,Qc,by show _=_;rw [<-Ri.o];exact HZ.o,tL.o,D6.o,by rw [PQ,hA];omega⟩
      case measure=>simp [intOf]
    ·obtain rfl:k=5:=UN
     obtain⟨x0,x1⟩:=a' (b' hbr M9.o);go_wp2_with fail;refine(Jf wr t.exp).mono ?_;intro e Pw h;obtain⟨QC,Qq,rfl, -,Nm,LQ⟩:=h.read;have QO:=Hd Nm;have LF:=d' hbr LQ;have N7:=LF.size;have Ot:=Hd (Ia.o.c' LQ);clear h Nm;have IE:Hi (M2.length+(hN 4 (nx t.exp)).length<=maxLen/\(M2.length+(hN 4 (nx t.exp)).length)*1<=140737488355328):=(by simp only [hA];unfold maxLen;constructor<;>omega);go_wp2_with (at_builtin;refine kw (k:= .u8) (v:=u3) (u:= .slice QC (hN 4 (nx t.exp)).length Qq) (w0:=W) (B:=W.heap.size) (wr:=Pw) (xs:=M2) (ys:=hN 4 (nx t.exp)) rfl _ _ rfl iU rfl rfl LF N7 Ot.o QO.o IE.o.1 IE.o.2 ?_)
     intro v50 Si Ny Mt;have Mg:=Own.mono Ny (F':=λx=>False\/W.heap.size<=x) λx _ h=>(by first|exact h|exact .inr h);obtain⟨M3,Kh⟩:=iF (M2++hN 4 (nx t.exp));have Rh:=Hd Kh;have PP:M3.length=M2.length+(hN 4 (nx t.exp)).length:=(by rw [<-Kh,U3]);rw [Kh]at Mg;have Q5:=Hd Mg;clear Mg Ny Kh;rw [hA]at PP;clear x0 x1;obtain⟨x0,x1⟩:=a' (b' Mt M9.o);go_wp2_with fail;refine(DD S Si pa pc t.proof (hD.c' H.o.proof Mt) UN).mono ?_;intro e Pv h;obtain⟨QB,Qp,rfl, -,Nl,LP⟩:=h.read;have QN:=Hd Nl;have LE:=d' Mt LP;have N6:=LE.size;have Oq:=Hd (Q5.o.c' LP);clear h Nl;have IC:Hi (M3.length+(rm t.proof).length<=maxLen/\(M3.length+(rm t.proof).length)*1<=140737488355328):=(by simp only [Ft];unfold maxLen;constructor<;>omega);go_wp2_with (at_builtin;refine kw (k:= .u8) (v:=v50) (u:= .slice QB (rm t.proof).length Qp) (w0:=W) (B:=W.heap.size) (wr:=Pv) (xs:=M3) (ys:=rm t.proof) rfl _ _ rfl iU rfl rfl LE N6 Oq.o QN.o IC.o.1 IC.o.2 ?_)
     intro v51 SZ Nx Qa;have Mf:=Own.mono Nx (F':=λx=>False\/W.heap.size<=x) λx _ h=>(by first|exact h|exact .inr h);obtain⟨RC,Kg⟩:=iF (M3++rm t.proof);have Rg:=Hd Kg;have SV:RC.length=M3.length+(rm t.proof).length:=(by rw [<-Kg,U3]);rw [Kg]at Mf;have NZ:=Hd Mf;clear Mf Nx Kg;have HE:Hi (zk t=RC):=by
      show _=_;rw [<-Rg.o,<-Rh.o,D4.o,SL.o,<-HL2.o,<-Mc.o];rfl
     obtain⟨a9,c9,rfl, -, -⟩:=g4.form NZ.o.slice;have HS:=Hd (hD.mono NZ.o.slice (S':=λ_=>True) λ_ _ _=>trivial);clear x0 x1;go_wp2;go_ret;rw [HE.o];exact⟨a9,c9,rfl,HS.o,d' Rs.o Qa⟩
theorem rN (S:UO)(w:World)(t:jO)(ma oa pa:UP)(mc oc pc:Nat)(h:ks S w t ma oa pa mc oc pc)(l1:t.marks.length<=1000)(l2:t.outs.length<=1000)(l3: ∀o∈t.outs,o.ha.length<=1000)(j:t.proof.length<=2000000)(u:0<=t.exp)(y:t.exp<=4294967295):
 Calls prog 100 #[.agg (jQ t ma mc oa oc pa pc)] w λe w'=> ∃a cap,e= .returned (.slice a (encS t t.proof).length cap)/\hD.rel (λ_=>True) w' [.slice a (encS t t.proof).length cap] (encS t t.proof)/\BW w w':=by
 have e:zk t=encS t t.proof:=by
  unfold zk nx;rw [g3 UN]
 have:=rM S w t ma oa pa mc oc pc h l1 l2 l3 j;rw [e]at this;exact this
theorem DK (w:World)(t:TypeId){x:Int}(j:iZ x):Own ib w.heap.size t (λy=>False\/w.heap.size<=y) (w.alloc (.cells #[x] t)) (.slice (some ⟨w.heap.size,0,none⟩) 1 1) [x]:=
 nr (k:= .u64) (cur:= [U2 x]) (xs:= [x]) (gY w _) rfl rfl (by intro y hy;simp at hy;subst hy;exact j) (g9 _) (by have:=qZ;simp;omega) (g9 _)
theorem OM: ∀k:Fin 7,(256:Int)^k.val<=281474976710656/\(0:Int)<256^k.val/\(k.val<=5->(256:Int)^k.val<=1099511627776):=by decide+kernel
theorem Jk (xs:List Int)(i:Nat)(hi:i<xs.length)(u:i % 7=0):(((xs.length:Int)::chunks (xs.take i))++ [0]).set (i / 7+1) (0+xs[i]*256^(i % 7))=(xs.length:Int)::chunks (xs.take (i+1)):=by
 have j:(xs.take i).length=i:=by simp;omega
 rw [Fq xs i hi u,u,zS,Int.mul_one,Int.zero_add,List.cons_append,List.set_cons_succ,List.set_append_right _ _ (by rw [kR,j];omega),kR,j,show i / 7-(i+6) / 7=0 by omega];rfl
theorem G0 (xs:List Int)(i:Nat)(hi:i<xs.length)(j:i % 7≠0):((xs.length:Int)::chunks (xs.take i)).set (i / 7+1) (chunk (xs.take i) (i / 7)+xs[i]*256^(i % 7))=(xs.length:Int)::chunks (xs.take (i+1)):=by
 rw [List.set_cons_succ,DW xs i hi j]
theorem GX (S:UO)(w:World)(a:UP)(cap:Nat)(xs:List Int)(h:hD.rel S w [.slice a xs.length cap] xs)(a3:xs.length<=3000000):
 Calls prog 102 #[.slice a xs.length cap] w λe w'=> ∃aV aW,e= .returned (.slice aV (mg xs).length aW)/\gZ.rel (λ_=>True) w' [.slice aV (mg xs).length aW] (mg xs)/\BW w w':=by
 obtain⟨H,a6⟩:=ik h (pU h);have bz:IntKind.u64.wrap (xs.length:Int)=xs.length:=by rw [jP];omega
 have a8:=Hd (DK w 24 (ir (x:=(xs.length:Int)) UN UN));have a5:=Hd (jc w (.cells #[(xs.length:Int)] 24));clear h;go_wp2;go_loopw [3,4] (λbx aP wr=> ∃i:Nat,i<=xs.length/\aP= UZ i/\Own ib w.heap.size 24 (λx=>False\/w.heap.size<=x) wr bx ((xs.length:Int)::chunks (xs.take i))/\BW w wr) (λ_ aP _=>xs.length-(intOf aP).toNat)
 case atStart=>exact⟨0,iy _,rfl,by simpa [chunks]using a8.o,a5.o⟩
 case round=>
  obtain⟨i,hi,rfl,a1,ai⟩:=hrel;have ae:=Hd a1;have bj:=ai.size;clear a1;by_cases hlt:i<xs.length
  ·have aD:(xs.take i).length=i:=by simp;omega
   have af:(chunks (xs.take i)).length=(i+6) / 7:=(by rw [kR,aD]);have bA:(0:Int)<=(i:Int):=UN;have bB:(i:Int)<(xs.length:Int):=UN;obtain⟨b,off,rfl,aZ, -,ag,a4,av⟩:=bytes_at H.o i hlt;have aX:IntKind.u64.wrap xs[i]=xs[i]:=(by rw [jP];omega);by_cases z:i % 7=0
   ·have br:((i:Int) % 7==0)=true:=by rw [iO];omega
    have G:=Hd (Jk xs i hlt z);have bf:Hi (ib.rel (λ_=>False) wr [U0] 0):=⟨rfl,ir UN UN⟩;have ar:Hi (((xs.length:Int)::chunks (xs.take i)).length+1<=maxLen/\(((xs.length:Int)::chunks (xs.take i)).length+1)*8<=140737488355328):=by
     rw [Tz,af];unfold maxLen;constructor<;>omega
    have Y:(((xs.length:Int)::chunks (xs.take i))++ [0]).length=i / 7+1+1:=(by rw [U3,Tz,af];simp;omega);have ah: ∀h,(((xs.length:Int)::chunks (xs.take i))++ [0])[i / 7+1]'h=0:=by
     intro h;rw [TW (by rw [Tz,af];omega)];simp
    obtain⟨x,aq⟩:=iF (xs[i]);rw [aq]at ag a4 aX av G;clear aq aD af;obtain⟨r,hr⟩:=iF (i % 7);have bv:(i:Int) % 7=(r:Int):=UN;have bt:r<7:=UN;rw [hr]at G;obtain⟨aU,aH⟩:=iF ((xs.length:Int)::chunks (xs.take i));rw [aH]at ae ar G Y;have aY: ∀h,(aU++ [0])[i / 7+1]'h=0:=(by subst aH;exact ah);clear aH ah;obtain⟨u,aJ⟩: ∃u:Int,u=0:=⟨_,rfl⟩;obtain⟨au,K⟩:=iF (aU++ [0]);have a7:=Hd K;obtain⟨J,U⟩:=iF (i / 7+1);have aj: ∀h,au[J]'h=u:=(by subst K U aJ;exact aY);have aw:0<=u/\u<72057594037927936:=UN;have aT:Hi (au.set J (u+x*256^r)=(xs.length:Int)::chunks (xs.take (i+1))):=(by subst K U aJ;exact G.o);rw [K,U]at Y;clear K U aJ aY G;have G:=aT;clear aT;go_wp2_with (at_builtin;refine km (r:=ib) (wr:=wr) (es:= [U0]) (v:=u3) (w0:=w) (B:=w.heap.size) rfl _ _ rfl iX rfl rfl ai bj ae.o bf.o (λx a3=>a3.elim) ar.o.1 ar.o.2 ?_)
    intro v2 w2 a0 hb2;have aO:=Own.mono a0 (F':=λx=>False\/w.heap.size<=x) λx _ h=>(by first|exact h|exact .inr h);rw [a7.o]at aO;have a9:=Hd aO;clear a0 aO ae ar;obtain⟨g,c,ap,gc,aF,bn,aG,hcell,ak,ao⟩:=a9.o.pP J UN;rw [Y]at ap;subst ap;have aC:=Hd ao;rw [aj]at hcell;have ay:=Hd hcell;have aL:=(hb2.cell (p:=⟨b,off+i,none⟩) aZ).trans av;have bi:J+1<=c:=UN;unfold maxLen at aF;clear ao hcell aj;have az:=Hd ak;clear ak;go_wp2_with fail;clear aL;go_loop [5,6] (λaQ ad=> ∃(k:Nat),k<=r/\ad= UZ k/\aQ= U2 (x*256^k)) (λ_ ad=>r-(intOf ad).toNat)
    case atStart=>exact⟨0,iy _,rfl,by rw [zS,Int.mul_one]⟩
    case round=>
     obtain⟨k,bo,rfl,rfl⟩:=hrel;by_cases bq:k<r
     ·have j:=OM ⟨k,UN⟩
      simp only at j;have z:0<=x*256^k/\x*256^k<=255*256^k:=⟨Cc ag (sn j.2.1),FH UN (sn j.2.1)⟩;have aM:=j.2.2 (by show k<=5;omega);have bg:IntKind.u64.wrap (x*256^k*256)=x*256^k*256:=(by rw [jP];omega);have aE:Hi (x*256^(k+1)=x*256^k*256):=Hd (by rw [qR,Cb]);have bp:(k:Int)<(r:Int):=UN;clear j z aM;generalize x*256^k=y at*;go_wp2_with fail;go_round
      case rel=>exact⟨k+1,UN,by go_num,by rw [aE.o]⟩
      case measure=>exact UY
     ·obtain rfl:k=r:=UN
      have j:=OM ⟨k,UN⟩;simp only at j;have z:0<=x*256^k/\x*256^k<=255*256^k:=⟨Cc ag (sn j.2.1),FH UN (sn j.2.1)⟩;have aI:=j.1;have hy:0<=x*256^k/\x*256^k<72057594037927936:=UN;clear j z aI;generalize x*256^k=y at*
      have bh:IntKind.u64.wrap (u+y)=u+y:=(by rw [jP];omega);obtain⟨ab,aN⟩:=aC.o (u+y) (ir UN UN);rw [G.o]at ab;have aA:=Hd ab;have ax:=Hd (hb2.setCell (p:=⟨g,J,none⟩) aG (U2 (u+y)));clear ab aN;have aw:=ay.o;have bm:=az.o;have bw:(0:Int)<=(J:Int):=UN;go_wp2;go_roundw
      case rel=>exact⟨i+1,UN,by go_num,aA.o,ax.o⟩
      case measure=>exact UY
   ·have br:((i:Int) % 7==0)=false:=by rw [je];omega
    have V:=Hd (G0 xs i hlt z);have Y:((xs.length:Int)::chunks (xs.take i)).length=i / 7+1+1:=(by rw [Tz,af];omega);have ah: ∀h,((xs.length:Int)::chunks (xs.take i))[i / 7+1]'h=chunk (xs.take i) (i / 7):=by
     intro h;rw [List.getElem_cons_succ,rb]
    have aw:=JK (xs.take i) (λd bk=>a6.o d (TV bk)) (i / 7);obtain⟨x,aq⟩:=iF (xs[i]);rw [aq]at ag a4 aX av V;clear aq aD af;obtain⟨r,hr⟩:=iF (i % 7);have bv:(i:Int) % 7=(r:Int):=UN;have bt:r<7:=UN;rw [hr]at V;obtain⟨u,aK⟩:=iF (chunk (xs.take i) (i / 7));rw [aK]at aw V;obtain⟨au,K⟩:=iF ((xs.length:Int)::chunks (xs.take i));rw [K]at ae V Y;obtain⟨J,U⟩:=iF (i / 7+1);have aj: ∀h,au[J]'h=u:=(by subst K U aK;exact ah);rw [U]at Y V;clear K U aK ah;have G:=V;clear V;obtain⟨g,c,ap,gc,aF,bn,aG,hcell,ak,ao⟩:=ae.o.pP J UN;rw [Y]at ap;subst ap;have aC:=Hd ao;rw [aj]at hcell;have ay:=Hd hcell;have aL:=(ai.cell (p:=⟨b,off+i,none⟩) aZ).trans av;have bi:J+1<=c:=UN;unfold maxLen at aF;clear ao hcell aj;have az:=Hd ak;clear ak;go_wp2_with fail;clear aL;go_loop [5,6] (λaQ ad=> ∃(k:Nat),k<=r/\ad= UZ k/\aQ= U2 (x*256^k)) (λ_ ad=>r-(intOf ad).toNat)
    case atStart=>exact⟨0,iy _,rfl,by rw [zS,Int.mul_one]⟩
    case round=>
     obtain⟨k,bo,rfl,rfl⟩:=hrel;by_cases bq:k<r
     ·have j:=OM ⟨k,UN⟩
      simp only at j;have z:0<=x*256^k/\x*256^k<=255*256^k:=⟨Cc ag (sn j.2.1),FH UN (sn j.2.1)⟩;have aM:=j.2.2 (by show k<=5;omega);have bg:IntKind.u64.wrap (x*256^k*256)=x*256^k*256:=(by rw [jP];omega);have aE:Hi (x*256^(k+1)=x*256^k*256):=Hd (by rw [qR,Cb]);have bp:(k:Int)<(r:Int):=UN;clear j z aM;generalize x*256^k=y at*;go_wp2_with fail;go_round
      case rel=>exact⟨k+1,UN,by go_num,by rw [aE.o]⟩
      case measure=>exact UY
     ·obtain rfl:k=r:=UN
      have j:=OM ⟨k,UN⟩;simp only at j;have z:0<=x*256^k/\x*256^k<=255*256^k:=⟨Cc ag (sn j.2.1),FH UN (sn j.2.1)⟩;have aI:=j.1;have hy:0<=x*256^k/\x*256^k<72057594037927936:=UN;clear j z aI;generalize x*256^k=y at*
      have bh:IntKind.u64.wrap (u+y)=u+y:=(by rw [jP];omega);obtain⟨ab,aN⟩:=aC.o (u+y) (ir UN UN);rw [G.o]at ab;have aA:=Hd ab;have ax:=Hd (ai.setCell (p:=⟨g,J,none⟩) aG (U2 (u+y)));clear ab aN;have aw:=ay.o;have bm:=az.o;have bw:(0:Int)<=(J:Int):=UN;go_wp2;go_roundw
      case rel=>exact⟨i+1,UN,by go_num,aA.o,ax.o⟩
      case measure=>exact UY
  ·obtain rfl:i=xs.length:=UN
   have al:=ae.o.slice;rw [Sw]at al;have bb:Hi (mg xs=(xs.length:Int)::chunks xs):=rfl;rw [<-bb.o]at al;obtain⟨a2,c2,rfl, -, -⟩:=g4.form al;have be:=Hd (gZ.mono al (S':=λ_=>True) λ_ _ _=>trivial);clear al;go_wp2;go_ret;exact⟨a2,c2,rfl,be.o,ai⟩
theorem pZ (S:UO)(w:World)(label:Int)(V:0<=label)(a:UP)(len cap:Nat)(xs:List Int)(Y:len=xs.length)(h:hD.rel S w [.slice a len cap] xs)(ab:xs.length<=3000000):
 Calls prog 67 #[label,.slice a len cap] w (Rt w (U2 (iD label (mg xs)))):=by
 subst Y;have z:(mg xs).length<=1000000:=by
  show((xs.length:Int)::chunks xs).length<=_;rw [Tz,kR];omega
 go_in;go_wp2_with fail;refine(GX S w a cap xs h ab).mono ?_;rintro e w1⟨U,c1,rfl,G,hb1⟩;obtain⟨y,u⟩:=ik G z;clear G z;obtain⟨l,j⟩:=iF (mg xs);have K:=Hd j;rw [j]at y u⊢;clear j;go_wp2_with fail;refine UR (oy label V (λ_=>True) w1 U c1 l y.o u.o) λw2 hb2=> ?_;go_wp2;go_ret;exact⟨g2 (by rw [K.o]),d' hb1 hb2⟩
theorem mt {t:jO}(j:hF t=0):t.marks.length<=4/\t.outs.length<=4/\(∀o∈t.outs,o.ha.length=3)/\0<=t.exp/\t.exp<=1048576/\t.proof.length<=1048576:=by
 have z:(k5 t.marks&&(lL t.outs&&(kK t&&oh t)))=true:=by
  cases h:(k5 t.marks&&(lL t.outs&&(kK t&&oh t)))with
  |true=>rfl
  |false=>rw [mr h]at j;cases j
 have y:t.proof.length<=1048576:=by
  unfold hF at j;rw [z,g7 rfl]at j;by_cases y:t.proof.length<=1048576
  ·exact y
  ·rw [g3 y]at j;cases j
 simp only [kg]at z;obtain⟨G,u, -,hr⟩:=z;have h1:=mU hr;rw [oz]at G;unfold lL at u;simp only [kg]at G u;refine⟨mU G.1,mU u.1,λo K=> ?_,h1.2.1,h1.2.2,y⟩;have h2:=TJ.1 u.2 o K;unfold tA at h2;simp only [kg]at h2;exact mU h2.2.2.1
theorem zv (S:UO)(w:World)(t:jO)(ma oa pa:UP)(mc oc pc:Nat)(h:ks S w t ma oa pa mc oc pc)(z:hF t=0):
 Calls prog 100 #[.agg #[t.g5,.slice ma t.marks.length mc,.slice oa t.outs.length oc,t.iK,t.wd,t.jn,t.acc,t.e',UZ t.exp,S0]] w λe w'=> ∃a cap,e= .returned (.slice a (encS t []).length cap)/\hD.rel (λ_=>True) w' [.slice a (encS t []).length cap] (encS t [])/\BW w w':=by
 obtain⟨f1,G,j,u,K, -⟩:=mt z;exact rN S w ⟨t.g5,t.marks,t.outs,t.iK,t.wd,t.jn,t.acc,t.e',t.exp,[]⟩ ma oa none mc oc 0 ⟨h.g5,h.iK,h.wd,h.jn,h.acc,h.e',h.exp,h.marks,h.outs,g4.nil⟩ (by show t.marks.length<=_;omega) (by show t.outs.length<=_;omega) (λo y=>by rw [j o y];omega) US u (by show t.exp<=_;omega)
theorem JD {t:jO}(y:hF t=0):(encS t []).length<=100000:=by
 obtain⟨f1,z,j, -, -, -⟩:=mt y;have h1:=tv t.outs (λo u=>by rw [j o u];omega);unfold encS;simp only [U3,hA,kC,jV];simp;omega
def wm (t:jO):Int:=iD 13 (mg (encS t []))
theorem GY (S:UO)(w:World)(t:jO)(ma oa pa:UP)(mc oc pc:Nat)(h:ks S w t ma oa pa mc oc pc)(u:hF t=0):
 Calls prog 137 #[.agg (jQ t ma mc oa oc pa pc)] w (Rt w (U2 (wm t))):=by
 have j:=(jc w (.cells (jQ t ma mc oa oc pa pc) 87));have V:=Hd (gY w (.cells (jQ t ma mc oa oc pa pc) 87));obtain⟨ab,H,ah,G,ad⟩:=zL j (h.c' j) h.bound u (JD u);have Y:Hi (wm t=iD 13 (mg (encS t []))):=rfl;clear h j u;go_in;go_wp2_with fail;generalize w.alloc (.cells (jQ t ma mc oa oc pa pc) 87)=W at*
 refine UR (mw S W t ma oa pa mc oc pc H.o) λw1 hb1=> ?_;rw [G.o];have y:=b' hb1 V.o;have al:=d' ab.o hb1;obtain⟨aq,ar⟩:=a' y;have U:=h6 (i:=9) (v:= S0) y;have af:Hi ((w1.setCell ⟨w.heap.size,9,none⟩ S0).heap[w.heap.size]? =some (.cells #[t.g5,.slice ma t.marks.length mc,.slice oa t.outs.length oc,t.iK,t.wd,t.jn,t.acc,t.e',UZ t.exp,S0] 87 (0,0))):=U;have z:=Hd (al.setCell (p:=⟨w.heap.size,9,none⟩) (g9 _) S0);have ag:Hi (ks (λk=>k<w.heap.size) (w1.setCell ⟨w.heap.size,9,none⟩ S0) t ma oa pa mc oc pc):=ah.o.c' z.o;obtain⟨au,av⟩:=a' af.o;clear U y;go_wp2_with fail;clear aq ar au av;generalize w1.setCell ⟨w.heap.size,9,none⟩ S0=w2 at*
 refine(zv _ w2 t ma oa pa mc oc pc ag.o G.o).mono ?_;rintro e ap⟨ai,aj,rfl,K,hb3⟩;have ae:=Hd K;have ao:=d' z.o hb3;clear K;generalize encS t []=l at*;go_wp2_with fail;refine UR (pZ (λ_=>True) ap 13 UN ai _ aj l rfl ae.o (by have:=ad.o;omega)) λaw ak=> ?_;go_wp2;go_ret;exact⟨g2 Y.o.symm,d' ao ak⟩
end Go.Proofs.YtjdiofjjoefnhaaGreatDoor
