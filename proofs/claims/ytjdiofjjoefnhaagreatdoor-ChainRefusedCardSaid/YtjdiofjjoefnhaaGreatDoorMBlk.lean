/- The program's encoding, weight and identifier of a transaction, exact. -/
import Derived.Test.YtjdiofjjoefnhaaGreatDoorMEx
set_option maxRecDepth 100000
set_option maxHeartbeats 4000000
namespace Go.Proofs.YtjdiofjjoefnhaaGreatDoor
open Tryz Go.ChangeShapes Go.WideShapes Go.ChangeAt Go.RowKit Go.Sort
def qM (t:jO):List Int:=if hF t=0 then encS t t.proof else []
def zJ (t:jO):Int:=if hF t=0 then iD 14 (mg (encS t t.proof))else 0
def MQ (t:jO)(w:World)(e:Ending)(w':World):Prop:= ∃(ys:List Int) (a:UP) (cap:Nat),Hi (ys=qM t)/\ys.length<=1100000/\e= .returned (.tuple #[.slice a ys.length cap,UZ (hF t)])/\hD.rel (λ_=>True) w' [.slice a ys.length cap] ys/\BW w w'
theorem uM (S:UO)(w:World)(t:jO)(ma oa pa:UP)(mc oc pc:Nat)(h:ks S w t ma oa pa mc oc pc):
 Calls prog 152 #[.agg (jQ t ma mc oa oc pa pc)] w (MQ t w):=by
 have z:=jc w (.cells (jQ t ma mc oa oc pa pc) 87);have Y:=Hd (gY w (.cells (jQ t ma mc oa oc pa pc) 87));obtain⟨H,U⟩:=ik (h.c' z) z;clear z h;go_in;go_upto_region 1 with(fail);generalize w.alloc (.cells (jQ t ma mc oa oc pa pc) 87)=W at*;obtain⟨G,K⟩:=a' Y.o;go_wp2_with fail;refine UR (m3 S W t ma oa pa mc oc pc H.o) λw1 hb1=> ?_;clear G K;by_cases j:hF t=0
 ·have V:=Hd j
  have y:Hi (qM t=encS t t.proof):=Hd (by unfold qM;rw [g7 j]);have ad:t.proof.length<=1048576:=(ke j).2.2.2.2.2;rw [j];clear j;obtain⟨G,K⟩:=a' (b' hb1 Y.o);go_wp2_with fail;refine(DT S w1 t ma oa pa mc oc pc (H.o.c' hb1) V.o pa pc t.proof S (H.o.c' hb1).proof ad).mono ?_;rintro e w2⟨ys,a,cap,ab,ag,rfl,hr,hb2⟩;have u:=Hd hr;clear hr G K;go_wp2;go_ret2;exact⟨ys,a,cap,by show _=_;rw [ab.o,y.o],UN,by rw [V.o];rfl,u.o,d' U.o (d' hb1 hb2)⟩
 ·have y:Hi (qM t= []):=by show _=_;unfold qM;rw [g3 j]
  have ae:(hF t==0)=false:=(by rw [je];exact j);have af:(hF t != 0)=true:=(by rw [iB];exact j);obtain⟨r,hr⟩:=iF (hF t);have u:=Hd hr;rw [hr]at ae af⊢;clear hr j;go_wp2;go_ret2;exact⟨[],none,0,by show _=_;rw [y.o],US,by rw [u.o];rfl,g4.nil,d' U.o hb1⟩
theorem Ev (S:UO)(w:World)(t:jO)(ma oa pa:UP)(mc oc pc:Nat)(h:ks S w t ma oa pa mc oc pc):
 Calls prog 105 #[.agg (jQ t ma mc oa oc pa pc)] w λe w'=>e= .returned (UZ (qM t).length)/\(qM t).length<=1100000/\BW w w':=by
 have u:=jc w (.cells (jQ t ma mc oa oc pa pc) 87);have G:=Hd (gY w (.cells (jQ t ma mc oa oc pa pc) 87));obtain⟨H,y⟩:=ik (h.c' u) u;clear u h;go_in;go_upto_region 1 with(fail);generalize w.alloc (.cells (jQ t ma mc oa oc pa pc) 87)=W at*;obtain⟨V,Y⟩:=a' G.o;go_wp2_with fail;refine(uM S W t ma oa pa mc oc pc H.o).mono ?_;rintro e w1⟨ys,a,cap,K,U,rfl,hr,hb1⟩;have ae:=Hd hr;clear V Y hr;by_cases j:hF t=0
 ·rw [j]
  clear j;go_wp2;go_ret;rw [<-K.o];exact⟨rfl,U,d' y.o hb1⟩
 ·have z:Hi (qM t= []):=by show _=_;unfold qM;rw [g3 j]
  have ab:(hF t==0)=false:=(by rw [je];exact j);have ad:(hF t != 0)=true:=(by rw [iB];exact j);obtain⟨r,hr⟩:=iF (hF t);rw [hr]at ab ad⊢;clear hr j;go_wp2;go_ret;rw [z.o];exact⟨rfl,US,d' y.o hb1⟩
theorem IU (S:UO)(w:World)(t:jO)(ma oa pa:UP)(mc oc pc:Nat)(h:ks S w t ma oa pa mc oc pc):
 Calls prog 108 #[.agg (jQ t ma mc oa oc pa pc)] w (Rt w (U2 (zJ t))):=by
 have y:=jc w (.cells (jQ t ma mc oa oc pa pc) 87);have K:=Hd (gY w (.cells (jQ t ma mc oa oc pa pc) 87));obtain⟨H,z⟩:=ik (h.c' y) y;clear y h;go_in;go_upto_region 1 with(fail);generalize w.alloc (.cells (jQ t ma mc oa oc pa pc) 87)=W at*;obtain⟨V,Y⟩:=a' K.o;go_wp2_with fail;refine(uM S W t ma oa pa mc oc pc H.o).mono ?_;rintro e w1⟨ys,a,cap,U,ae,rfl,hr,hb1⟩;have G:=Hd hr;clear V Y hr;by_cases j:hF t=0
 ·have u:Hi (zJ t=iD 14 (mg ys)):=by show _=_;unfold zJ;rw [g7 j,U.o];unfold qM;rw [g7 j]
  rw [j];clear j;go_wp2_with fail;refine UR (th _ w1 14 UN a ys.length cap ys rfl G.o UN) λw2 hb2=> ?_;go_wp2;go_ret;exact⟨g2 u.o.symm,d' z.o (d' hb1 hb2)⟩
 ·have u:Hi (zJ t=0):=by show _=_;unfold zJ;rw [g3 j]
  have ab:(hF t==0)=false:=(by rw [je];exact j);have ad:(hF t != 0)=true:=(by rw [iB];exact j);obtain⟨r,hr⟩:=iF (hF t);rw [hr]at ab ad⊢;clear hr j;go_wp2;go_ret;exact⟨g2 u.o.symm,d' z.o hb1⟩
theorem Ep (t:jO):0<=zJ t/\zJ t<18446744069414584321:=by
 unfold zJ;split
 ·exact nX _ _
 ·omega
structure hV where
 parent:Int
 f':Int
 hJ:Int
 work:Int
 e':Int
 hQ:List jO
abbrev tm (b:hV)(xa:UP)(xc:Nat)(i:Int)(p:Int)(jy:Int):Array Value:= #[U2 b.parent,UZ b.f',U2 b.hJ,U2 b.work,U2 b.e',.slice xa b.hQ.length xc,U2 i,UZ p,U2 jy]
abbrev jI (b:hV)(xa:UP)(xc:Nat):Array Value:= #[U2 b.parent,UZ b.f',U2 b.hJ,U2 b.work,U2 b.e',.slice xa b.hQ.length xc]
abbrev my:kS (List jO):=g4 zI
theorem oq {S:UO}{w:World}{a:UP}{len cap:Nat}{l:List jO}(h:my.rel S w [.slice a len cap] l)(k:Nat)(y:k<l.length):
 ∃b off ma oa pa mc oc pc,a=some ⟨b,off,none⟩/\b<w.heap.size/\ks S w l[k] ma oa pa mc oc pc/\w.cell? ⟨b,off+k*10,none⟩=some (U2 l[k].g5)/\w.cell? ⟨b,off+k*10+1,none⟩=some (.slice ma l[k].marks.length mc)/\w.cell? ⟨b,off+k*10+2,none⟩=some (.slice oa l[k].outs.length oc)/\w.cell? ⟨b,off+k*10+3,none⟩=some (U2 l[k].iK)/\w.cell? ⟨b,off+k*10+4,none⟩=some (U2 l[k].wd)/\w.cell? ⟨b,off+k*10+5,none⟩=some (U2 l[k].jn)/\w.cell? ⟨b,off+k*10+6,none⟩=some (U2 l[k].acc)/\w.cell? ⟨b,off+k*10+7,none⟩=some (U2 l[k].e')/\w.cell? ⟨b,off+k*10+8,none⟩=some (UZ l[k].exp)/\w.cell? ⟨b,off+k*10+9,none⟩=some (.slice pa l[k].proof.length pc):=by
 obtain⟨b,off,es,rfl,z,u,hrel,j⟩:=g4.at h k y;obtain⟨ma,oa,pa,mc,oc,pc,rfl,ht⟩:=zI.inv hrel;rw [zI.n]at j;exact⟨b,off,ma,oa,pa,mc,oc,pc,rfl,u,ht,j 0 _ rfl,j 1 _ rfl,j 2 _ rfl,j 3 _ rfl,j 4 _ rfl,j 5 _ rfl,j 6 _ rfl,j 7 _ rfl,j 8 _ rfl,j 9 _ rfl⟩
structure i7 (S:UO)(w:World)(b:hV)(xa:UP)(xc:Nat):Prop where
 parent:iZ b.parent
 f':zf b.f'
 hJ:iZ b.hJ
 work:iZ b.work
 e':iZ b.e'
 hQ:my.rel S w [.slice xa b.hQ.length xc] b.hQ
theorem i7.keep {S:UO}{w w':World}{b:hV}{xa:UP}{xc:Nat}(h:i7 S w b xa xc)(j:Kept S w w'):i7 S w' b xa xc:=⟨h.parent,h.f',h.hJ,h.work,h.e',my.keep h.hQ j⟩
theorem i7.c' {S:UO}{w w':World}{b:hV}{xa:UP}{xc:Nat}(h:i7 S w b xa xc)(j:BW w w'):i7 S w' b xa xc:=h.keep (Kept.of_below j)
theorem i7.mono {S S':UO}{w:World}{b:hV}{xa:UP}{xc:Nat}(h:i7 S w b xa xc)(j: ∀k,k<w.heap.size->S k->S' k):i7 S' w b xa xc:=⟨h.parent,h.f',h.hJ,h.work,h.e',my.mono h.hQ j⟩
def k' (b:hV):Bool:=decide (1<=b.f'/\b.f'<=1048576/\1<=b.work/\b.work<=65536/\b.parent<18446744069414584321/\b.hJ<18446744069414584321/\b.hQ.length<=64)
def k9:List jO->Nat
 | []=>0
 |t::l=>(qM t).length+k9 l
theorem ws: ∀(l m:List jO),k9 (l++m)=k9 l+k9 m
 | [],m=>by simp [k9]
 |t::l,m=>by simp [k9,ws l m];omega
theorem uK (l:List jO)(k:Nat)(h:k<l.length):k9 (l.take (k+1))=k9 (l.take k)+(qM l[k]).length:=by
 rw [z4 h,ws];simp [k9]
def jX (b:hV):Int:=if k' b=true then (if b.hQ.all (λt=>hF t==0)=true then (if k9 b.hQ<=2097152 then 0 else 3)else 1)else 1
theorem UK (S:UO)(w:World)(b:hV)(xa:UP)(xc:Nat)(h:i7 S w b xa xc):
 Calls prog 71 #[.agg (jI b xa xc)] w (Rt w (UZ (jX b))):=by
 have Y:=jc w (.cells (jI b xa xc) 44);have av:=Hd (gY w (.cells (jI b xa xc) 44));obtain⟨H,u⟩:=ik (h.c' Y) Y;clear Y h;go_in;go_upto_region 1 with(fail);generalize w.alloc (.cells (jI b xa xc) 44)=W at*;obtain⟨z,G⟩:=a' av.o;by_cases aN:b.f'<1
 ·have j:Hi (jX b=1):=by show _=_;unfold jX;rw [g3 (by unfold k';rw [jk];omega)]
  go_wp2;go_ret;exact⟨g2 j.o.symm,u.o⟩
 ·skip
  by_cases aO:1048576<b.f'
  ·have j:Hi (jX b=1):=by show _=_;unfold jX;rw [g3 (by unfold k';rw [jk];omega)]
   go_wp2;go_ret;exact⟨g2 j.o.symm,u.o⟩
  ·skip
   by_cases aP:b.work<1
   ·have j:Hi (jX b=1):=by show _=_;unfold jX;rw [g3 (by unfold k';rw [jk];omega)]
    go_wp2;go_ret;exact⟨g2 j.o.symm,u.o⟩
   ·skip
    by_cases aQ:65536<b.work
    ·have j:Hi (jX b=1):=by show _=_;unfold jX;rw [g3 (by unfold k';rw [jk];omega)]
     go_wp2;go_ret;exact⟨g2 j.o.symm,u.o⟩
    ·skip
     by_cases aT:18446744069414584321<=b.parent
     ·have j:Hi (jX b=1):=by show _=_;unfold jX;rw [g3 (by unfold k';rw [jk];omega)]
      go_wp2;go_ret;exact⟨g2 j.o.symm,u.o⟩
     ·skip
      by_cases aU:18446744069414584321<=b.hJ
      ·have j:Hi (jX b=1):=by show _=_;unfold jX;rw [g3 (by unfold k';rw [jk];omega)]
       go_wp2;go_ret;exact⟨g2 j.o.symm,u.o⟩
      ·skip
       by_cases aV:64<(b.hQ.length:Int)
       ·have j:Hi (jX b=1):=by show _=_;unfold jX;rw [g3 (by unfold k';rw [jk];omega)]
        go_wp2;go_ret;exact⟨g2 j.o.symm,u.o⟩
       ·skip
        have V:Hi (k' b=true):=Hd (by unfold k';rw [jk];omega);have aZ:b.hQ.length<=64:=UN;go_wp2_with fail;clear z G;go_loopw [3,38] (λaG ae wr=> ∃k:Nat,k<=b.hQ.length/\ae= UZ k/\aG= UZ (k9 (b.hQ.take k))/\Hi (k9 (b.hQ.take k)<=1100000*k)/\Hi ((b.hQ.take k).all (λt=>hF t==0)=true)/\BW W wr) (λ_ ae _=>b.hQ.length-(intOf ae).toNat)
        case atStart=>exact⟨0,iy _,rfl,rfl,by show _<=_;simp [k9],by show _=_;simp,g' _ _⟩
        case round=>
         obtain⟨k,aW,rfl,rfl,ao,K,U⟩:=hrel;by_cases hlt:k<b.hQ.length
         ·obtain⟨aL,off,ma,oa,pa,mc,oc,pc,rfl,aM,ht,c0,c1,c2,aw,ax,ay,az,aA,aC,aD⟩:=oq (my.c' H.o.hQ U) k hlt
          have ah:=Hd (uK b.hQ k hlt);have aq:=Hd (jW (λt=>hF t==0) b.hQ k hlt);have ar:Hi (hF b.hQ[k]≠0->b.hQ.all (λt=>hF t==0)=false):=λy=>all_false _ b.hQ k hlt (by simpa using y);generalize b.hQ[k]=t at*;have ab:=jc wr (.cells (jQ t ma mc oa oc pa pc) 87);have ai:=Hd (ht.c' ab);have af:=Hd (gY wr (.cells (jQ t ma mc oa oc pa pc) 87));have aj:=d' U ab;clear ht ab;have aX:=ao.o;generalize aE:k9 (b.hQ.take k)=ap at*;clear aE;go_upto_region 10 with(fail);clear c0 c1 c2 aw ax ay az aA aC aD;generalize wr.alloc (.cells (jQ t ma mc oa oc pa pc) 87)=aI at*;obtain⟨z,G⟩:=a' af.o;go_wp2_with fail;refine UR (m3 _ aI t ma oa pa mc oc pc ai.o) λaH hb3=> ?_;clear z G;by_cases y:hF t=0
          ·have au:=Hd y
           rw [y];clear y;obtain⟨z,G⟩:=a' (b' hb3 af.o);go_wp2_with fail;refine(Ev _ aH t ma oa pa mc oc pc (ai.o.c' hb3)).mono ?_;rintro e a0⟨rfl,ak,aF⟩;clear z G;have aJ:=Hd ak;have al:(ap:Int)+(qM t).length=((ap+(qM t).length:Nat):Int):=UN;have aK:=Hd al;clear al;obtain⟨m,ad⟩:=iF ((qM t).length);have ag:=Hd ad;rw [ad]at ak⊢;clear ad;go_wp2;go_roundw
           case rel=>exact⟨k+1,UN,by go_num,by rw [ah.o,ag.o];go_num,by show _<=_;rw [ah.o,ag.o];omega,by show _=_;rw [aq.o,K.o,au.o];rfl,d' aj (d' hb3 aF)⟩
           case measure=>exact UY
          ·have j:Hi (jX b=1):=by show _=_;unfold jX;rw [g7 V.o,g3 (by rw [ar.o y];simp)]
           have a1:(hF t==0)=false:=(by rw [je];exact y);have a2:(hF t != 0)=true:=(by rw [iB];exact y);clear y;generalize hF t=r at*;go_wp2;go_ret;exact⟨g2 j.o.symm,d' u.o (d' aj hb3)⟩
         ·obtain rfl:k=b.hQ.length:=UN
          rw [Sw]at ao K⊢;by_cases aY:2097152<(k9 b.hQ:Int)
          ·have j:Hi (jX b=3):=by show _=_;unfold jX;rw [g7 V.o,g7 K.o,g3 UN]
           go_wp2;go_ret;exact⟨g2 j.o.symm,d' u.o U⟩
          ·have j:Hi (jX b=0):=by show _=_;unfold jX;rw [g7 V.o,g7 K.o,g7 UN]
           go_wp2;go_ret;exact⟨g2 j.o.symm,d' u.o U⟩
def wh (b:hV):List Int:=hN 8 b.parent++hN 4 b.f'++hN 8 b.hJ++hN 8 b.work++hN 8 b.e'++hN 4 b.hQ.length
theorem Hg (b:hV):(wh b).length=40:=by simp [wh,hA]
def qv (l:List jO):List Int:=l.map zJ
def rY (b:hV)(ids:List Int):List Int:=wh b++ix ids
def zg (b:hV):Int:=iD 15 (mg (rY b (qv b.hQ)))
def iv (b:hV):Int:=if jX b=0 then zg b else 0
def iN (j:Int)(b:hV):Int:=if jX b=0 then (if b.work=j/\zg b % b.work=0 then 0 else 17)else jX b
theorem kQ {b:hV}(h:jX b=0):1<=b.f'/\b.f'<=1048576/\1<=b.work/\b.work<=65536/\b.parent<18446744069414584321/\b.hJ<18446744069414584321/\b.hQ.length<=64:=by
 unfold jX at h;split at h
 ·rename_i hh;unfold k' at hh;rw [jk]at hh;exact hh
 ·omega
theorem JO {b:hV}(h:jX b=0):b.hQ.all (λt=>hF t==0)=true:=by
 unfold jX at h;split at h
 ·split at h
  ·assumption
  ·omega
 ·omega
theorem Eq (b:hV):0<=zg b/\zg b<18446744069414584321:=nX _ _
theorem QM (N:Nat)(w:World)(a:UP)(cap:Nat)(xs:List Int)(h:hD.rel (λ_=>True) w [.slice a xs.length cap] xs)(y:xs.length<=N)(u:N<=100000)(n:Int)(j:0<=n)(z:n<=4294967295):
 Calls prog 43 #[.slice a xs.length cap,UZ n] w (qU (xs++hN 4 n) (N+4) w):=by
 obtain⟨m,rfl⟩:=lv j;exact Kr N w a cap xs h y u m UN
theorem Fc (S:UO)(w:World)(b:hV)(xa:UP)(xc:Nat)(h:i7 S w b xa xc)(hh:1<=b.f')(aO:b.f'<=1048576)(aP:b.hQ.length<=64):
 Calls prog 106 #[.agg (jI b xa xc)] w (qU (wh b) 40 w):=by
 have z:=jc w (.cells (jI b xa xc) 44);have y:=Hd (gY w (.cells (jI b xa xc) 44));obtain⟨H,ao⟩:=ik (h.c' z) z;clear z h;go_in;go_upto_region 1 with(fail);generalize w.alloc (.cells (jI b xa xc) 44)=W at*;obtain⟨j,u⟩:=a' y.o;go_wp2_with fail;refine(qg 0 W none 0 [] g4.nil (g9 _) UN b.parent H.o.parent).mono ?_;rintro e w1⟨aJ,ar,c1,ag,l1,rfl,h1,hb1⟩;clear j u;obtain⟨j,u⟩:=a' (b' hb1 y.o);go_wp2_with fail;refine(QM 8 w1 ar c1 aJ h1 UN UN b.f' UN UN).mono ?_;rintro e w2⟨aK,a2,c2,ah,l2,rfl,h2,hb2⟩;have Y:=d' hb1 hb2;clear j u;obtain⟨j,u⟩:=a' (b' Y y.o);go_wp2_with fail;refine(qg 12 w2 a2 c2 aK h2 UN UN b.hJ H.o.hJ).mono ?_;rintro e aG⟨aL,au,ay,ai,l3,rfl,G,hb3⟩;have ab:=d' Y hb3;clear j u;obtain⟨j,u⟩:=a' (b' ab y.o);go_wp2_with fail;refine(qg 20 aG au ay aL G UN UN b.work H.o.work).mono ?_;rintro e aH⟨aM,av,az,aj,aQ,rfl,K,aD⟩;have ad:=d' ab aD;clear j u;obtain⟨j,u⟩:=a' (b' ad y.o);go_wp2_with fail;refine(qg 28 aH av az aM K UN UN b.e' H.o.e').mono ?_;rintro e aI⟨aN,aw,aA,ak,aT,rfl,U,hb5⟩;have ae:=d' ad hb5;clear j u;obtain⟨j,u⟩:=a' (b' ae y.o);go_wp2_with fail;refine(Kr 36 aI aw aA aN U UN UN b.hQ.length UN).mono ?_;rintro e aV⟨af,ax,aC,al,aU,rfl,V,aE⟩;have aF:=d' ae aE;have ap:Hi (af=wh b):=by
  show _=_;rw [al.o,ak.o,aj.o,ai.o,ah.o,ag.o];rfl
 have aq:=Hd V;clear j u h1 h2 G K U V;go_wp2;go_ret;exact⟨af,ax,aC,ap,UN,rfl,aq.o,d' ao.o aF⟩
abbrev Kc (A:Array Value)(g:Nat)(w1 w':World):Prop:=BW w1 w'/\(∀o,w'.cell? ⟨g,o,none⟩=A[o]?)
theorem Kc.of {A:Array Value}{g:Nat}{t:TypeId}{w1 w':World}(h:w1.heap[g]? =some (.cells A t (0,0)))(j:BW w1 w'):Kc A g w1 w':=⟨j,(a' (b' j h)).1⟩
theorem Kc.drew {A:Array Value}{g:Nat}{w1 w':World}(h:Kc A g w1 w'):Kc A g w1 w'.drew:=⟨h.1.drew,h.2⟩
abbrev kb (A X:Array Value)(g k:Nat)(w1 w':World):Prop:=BW w1 w'/\(∀o,w'.cell? ⟨g,o,none⟩=A[o]?)/\(∀o,w'.cell? ⟨k,o,none⟩=X[o]?)
theorem kb.of {A X:Array Value}{g k:Nat}{t u:TypeId}{w1 w':World}(h:w1.heap[g]? =some (.cells A t (0,0)))(h2:w1.heap[k]? =some (.cells X u (0,0)))(j:BW w1 w'):kb A X g k w1 w':=⟨j,(a' (b' j h)).1,(a' (b' j h2)).1⟩
theorem kb.drew {A X:Array Value}{g k:Nat}{w1 w':World}(h:kb A X g k w1 w'):kb A X g k w1 w'.drew:=⟨h.1.drew,h.2.1,h.2.2⟩
def Le (l:List Int)(w:World)(e:Ending)(w':World):Prop:= ∃(ys:List Int) (a:UP) (cap:Nat),Hi (ys=l)/\e= .returned (.slice a ys.length cap)/\gZ.rel (λ_=>True) w' [.slice a ys.length cap] ys/\BW w w'
theorem r0 (S:UO)(w:World)(b:hV)(xa:UP)(xc:Nat)(h:i7 S w b xa xc)(a3:b.hQ.length<=64):
 Calls prog 73 #[.agg (jI b xa xc)] w (Le (qv b.hQ) w):=by
 have Y:=jc w (.cells (jI b xa xc) 44);have ah:=Hd (gY w (.cells (jI b xa xc) 44));obtain⟨H,ax⟩:=ik (h.c' Y) Y;clear Y h;go_in;go_upto_region 1 with(fail);generalize w.alloc (.cells (jI b xa xc) 44)=W at*;obtain⟨y,z⟩:=a' ah.o;go_wp2_with (at_make;refine m5 rfl _ _ rfl iX (n:=0) (m:=b.hQ.length) rfl rfl ?_ ?_ ?_ ?_ ?_ ?_)
 ·rfl
 ·rfl
 ·omega
 ·omega
 ·unfold maxLen;omega
 intro cur ao aK ap hb1 aU;have V:Own ib W.heap.size 24 (λx=>False\/W.heap.size<=x) aK (.slice (some ⟨W.heap.size,0,none⟩) 0 b.hQ.length) []:=nr (cur:=cur) ap ao rfl (λx ad=>by simp at ad) (iy _) (by unfold maxLen;omega) (g9 _);obtain⟨v0,au⟩:=iF (Value.slice (some ⟨W.heap.size,0,none⟩) 0 b.hQ.length);rw [au]at V⊢;obtain⟨aF,ay⟩:=ik V hb1;clear V ap aU ao au y z;obtain⟨y,z⟩:=a' (b' hb1 ah.o);clear hb1;go_wp2_with fail;clear y z;go_loopw [3,13] (λaX ae wr=> ∃k:Nat,k<=b.hQ.length/\ae= UZ k/\Hi (Own ib W.heap.size 24 (λx=>False\/W.heap.size<=x) wr aX (qv (b.hQ.take k)))/\BW W wr) (λ_ ae _=>b.hQ.length-(intOf ae).toNat)
 case atStart=>exact⟨0,iy _,rfl,by show Own _ _ _ _ _ _ _;simpa [qv]using aF.o,ay.o⟩
 case round=>
  obtain⟨k,a2,rfl,j,u⟩:=hrel;by_cases hlt:k<b.hQ.length
  ·obtain⟨a0,off,ma,oa,pa,mc,oc,pc,rfl,a1,ht,c0,c1,c2,aL,aM,aN,aO,aP,aQ,aT⟩:=oq (my.c' H.o.hQ u) k hlt
   have U:Hi (qv (b.hQ.take (k+1))=qv (b.hQ.take k)++ [zJ b.hQ[k]]):=Hd (by unfold qv;rw [z4 hlt,T0];rfl);have K:Hi ((qv (b.hQ.take k)).length=k):=Hd (by simp [qv];omega);generalize b.hQ[k]=t at*;have G:=jc wr (.cells (jQ t ma mc oa oc pa pc) 87);have aI:=Hd (ht.c' G);have aE:=Hd (gY wr (.cells (jQ t ma mc oa oc pa pc) 87));have al:=d' u G;have af:=Hd (j.o.c' G);clear ht G u j;have aC:=Hd al;clear al;go_upto_region 5 with(fail);clear c0 c1 c2 aL aM aN aO aP aQ aT;generalize wr.alloc (.cells (jQ t ma mc oa oc pa pc) 87)=aZ at*;obtain⟨y,z⟩:=a' aE.o;go_wp2_with fail;refine UR (IU _ aZ t ma oa pa mc oc pc aI.o) λaw hb3=> ?_;clear y z;have ab:=d' aC.o hb3;have ai:=ab.size;have ag:=Hd (af.o.c' hb3);have HC:Hi (ib.rel (λ_=>False) aw [(zJ t)] (zJ t)):=⟨rfl,ir (Ep t).1 (by have:=(Ep t).2;omega)⟩;obtain⟨I,aj⟩:=iF (zJ t);rw [aj]at HC U⊢;obtain⟨l0,aq⟩:=iF (qv (b.hQ.take k));rw [aq]at ag U K;have aD:=Hd ab;clear aj aq ab hb3 af;go_wp2_with (at_builtin;go_loud (refine km (r:=ib) (v:=u3) (wr:=aw) (es:= [U2 I]) (w0:=W) (B:=W.heap.size) rfl _ _ rfl iX rfl rfl aD.o ai ag.o HC.o (λx ad=>ad.elim) (by unfold maxLen;have:=K.o;omega) (by have:=K.o;omega) ?_))
   intro v1 aY ar ak;have aG:Hi (Own ib W.heap.size 24 (λx=>False\/W.heap.size<=x) aY v1 (l0++ [I])):=Own.mono ar λx _ h=>(by first|exact h|exact .inr h);have az:=Hd ak;clear ar ak ai;go_wp2;go_roundw
   case rel=>exact⟨k+1,UN,by go_num,by rw [U.o];exact aG,az.o⟩
   case measure=>exact UY
  ·obtain rfl:k=b.hQ.length:=UN
   rw [Sw]at j;obtain⟨aV,aW,rfl, -, -⟩:=g4.form j.o.slice;obtain⟨aH,aA⟩:=ik (gZ.mono j.o.slice (S':=λ_=>True) λ_ _ _=>trivial) u;clear j u;generalize av:qv b.hQ=ys at*;have aJ:=Hd av.symm;clear av;go_wp2;go_ret;exact⟨ys,aV,aW,by show _=_;rw [aJ.o],rfl,aH.o,d' ax.o aA.o⟩
theorem tg (S S':UO)(w:World)(b:hV)(xa ia:UP)(xc ic:Nat)(ids:List Int)(h:i7 S w b xa xc)(hh:1<=b.f')(aq:b.f'<=1048576)(ar:b.hQ.length<=64)(hi:gZ.rel S' w [.slice ia ids.length ic] ids)(aD:ids.length<=64):
 Calls prog 72 #[.agg (jI b xa xc),.slice ia ids.length ic] w (Rt w (U2 (iD 15 (mg (rY b ids))))):=by
 have u:=jc w (.cells (jI b xa xc) 44);have ah:=Hd (gY w (.cells (jI b xa xc) 44));obtain⟨H,ae,V⟩:=kT (h.c' u) u (gZ.c' hi u);clear hi;clear u h;go_in;go_upto_region 1 with(fail);generalize w.alloc (.cells (jI b xa xc) 44)=W at*;obtain⟨aw,ax⟩:=a' ah.o;go_wp2_with fail;refine(Fc S W b xa xc H.o hh aq ar).mono ?_;rintro e w1⟨ay,aj,c1,ab,l1,rfl,h1,hb1⟩;clear aw ax;go_wp2;go_loopw [5,12] (λav U wr=> ∃(k:Nat) (ys:List Int) (a:UP) (c:Nat),k<=ids.length/\U= UZ k/\av= .slice a ys.length c/\Hi (ys=rY b (ids.take k))/\ys.length<=40+8*k/\hD.rel (λ_=>True) wr [.slice a ys.length c] ys/\BW W wr) (λ_ U _=>ids.length-(intOf U).toNat)
 case atStart=>exact⟨0,ay,aj,c1,iy _,rfl,rfl,by show _=_;rw [ab.o];simp [rY,ix],UN,h1,hb1⟩
 case round=>
  obtain⟨k,ys,a,c,aE,rfl,rfl,K,au,y,j⟩:=hrel;by_cases hlt:k<ids.length
  ·obtain⟨aA,off,rfl,aC,ap⟩:=il (gZ.c' V.o j) k hlt
   have ag:Hi (rY b (ids.take (k+1))=rY b (ids.take k)++hN 8 ids[k]):=Hd (by unfold rY;rw [z4 hlt,n6,Tt]);have af:=Hd (mN V.o ids[k] (z3 hlt));generalize ids[k]=I at*;obtain⟨G,z⟩:=ik y j;clear y j;go_wp2_with fail;clear ap;refine(qg (40+8*k) wr a c ys G.o au UN I af.o).mono ?_;rintro e aG⟨az,ak,al,ad,aF,rfl,Y,ao⟩;have ai:=Hd Y;clear Y;go_wp2;go_roundw
   case rel=>exact⟨k+1,az,ak,al,UN,by go_num,rfl,by show _=_;rw [ad.o,ag.o,K.o],UN,ai.o,d' z.o ao⟩
   case measure=>exact UY
  ·obtain rfl:k=ids.length:=UN
   rw [Sw]at K;obtain⟨G,z⟩:=ik y j;clear y j;go_wp2_with fail;refine UR (th _ wr 15 UN a ys.length c ys rfl G.o UN) λaH hb5=> ?_;rw [K.o];go_wp2;go_ret;exact⟨rfl,d' ae.o (d' z.o hb5)⟩
theorem Hz (S:UO)(w:World)(b:hV)(xa:UP)(xc:Nat)(h:i7 S w b xa xc):
 Calls prog 27 #[.agg (jI b xa xc)] w (Rt w (U2 (iv b))):=by
 have G:=jc w (.cells (jI b xa xc) 44);have Y:=Hd (gY w (.cells (jI b xa xc) 44));obtain⟨H,U⟩:=ik (h.c' G) G;clear G h;go_in;go_upto_region 1 with(fail);generalize w.alloc (.cells (jI b xa xc) 44)=W at*;obtain⟨aj,ak⟩:=a' Y.o;go_wp2_with fail;refine UR (UK S W b xa xc H.o) λw1 hb1=> ?_;clear aj ak;by_cases j:jX b=0
 ·have u:Hi (iv b=zg b):=by show _=_;unfold iv;rw [g7 j]
  obtain⟨f1,ah,ap,aq,ar,au,ab⟩:=kQ j;rw [j];clear j;obtain⟨z,K⟩:=ik (b' hb1 Y.o) (H.o.c' hb1);go_wp2_with fail
  go_region_held3 (λw'=>BW w1 w'/\(∀o,w'.cell? ⟨w.heap.size,o,none⟩=((jI b xa xc):Array Value)[o]?))
   (first
     |with_reducible exact Kc.drew (Kc.of z.o (g' _ _))
     |with_reducible exact y.o
     |with_reducible exact V.o)
   (first
     |(go_at_call 73;refine(r0 S _ b xa xc (K.o.c' (‹BW w1 _/\_›).1) ab).mono ?_;rintro e av⟨ys,ia,ic,ae,rfl,ad,ai⟩
       have af:=Hd ad;have y:=Hd (Kc.of z.o (d' (‹BW w1 _/\_›).1 ai));have ag:Hi (ys.length<=64):=(by show _<=_;rw [ae.o];simp [qv];omega);clear ad)
     |(go_at_call 72;refine UR (tg S _ _ b xa ia xc ic ys (K.o.c' y.o.1) f1 ah ab af.o ag.o) λaw hb5=> ?_
       have V:=Hd (Kc.of z.o (d' y.o.1 hb5));rw [show iD 15 (mg (rY b ys))=zg b from by rw [ae.o];rfl]))
  go_wp2;go_ret;exact⟨g2 u.o.symm,d' U.o (d' hb1 V.o.1)⟩
 ·have u:Hi (iv b=0):=by show _=_;unfold iv;rw [g3 j]
  have al:(jX b==0)=false:=(by rw [je];exact j);have ao:(jX b != 0)=true:=(by rw [iB];exact j);obtain⟨r,hr⟩:=iF (jX b);rw [hr]at al ao⊢;clear hr j;go_wp2;go_ret;exact⟨g2 u.o.symm,d' U.o hb1⟩
theorem BP (S:UO)(w:World)(md d bl bu qu iz win fin j:Int)(b:hV)(xa:UP)(xc:Nat)(h:i7 S w b xa xc):
 Calls prog 26 #[.agg (qs md d bl bu qu iz win fin j),.agg (jI b xa xc)] w (Rt w (UZ (iN j b))):=by
 have ae:=hd (jc w (.cells (qs md d bl bu qu iz win fin j) 26)) (.cells (jI b xa xc) 44);have ak:=Hd (ji w (.cells (qs md d bl bu qu iz win fin j) 26) (.cells (jI b xa xc) 44)).2;have ao:=Hd (ji w (.cells (qs md d bl bu qu iz win fin j) 26) (.cells (jI b xa xc) 44)).1;obtain⟨H,Y⟩:=ik (h.c' ae) ae;clear ae h;go_in;go_upto_region 1 with(fail);generalize (w.alloc (.cells (qs md d bl bu qu iz win fin j) 26)).alloc (.cells (jI b xa xc) 44)=W at*;obtain⟨af,aD⟩:=a' ao.o;obtain⟨ag,aE⟩:=a' ak.o;go_wp2_with fail;refine UR (UK S W b xa xc H.o) λw1 hb1=> ?_;clear af aD ag aE;by_cases u:jX b=0
 ·have ad:Hi (iN j b=if b.work=j/\zg b % b.work=0 then 0 else 17):=by show _=_;unfold iN;rw [g7 u]
  obtain⟨f1,az,aG,aH,aI,aJ,ap⟩:=kQ u;rw [u];clear u;obtain⟨U,K,aj⟩:=kT (b' hb1 ao.o) (b' hb1 ak.o) (H.o.c' hb1);by_cases z:b.work=j
  ·have ah:(b.work==j)=true:=by rw [iO];exact z
   have ai:(b.work != j)=false:=(by rw [jt];exact z);have ax:=Hd z;have aK:b.work≠0:=UN;clear z;go_wp2_with fail
   go_region_held3 (λw'=>BW w1 w'/\(∀o,w'.cell? ⟨w.heap.size,o,none⟩=((qs md d bl bu qu iz win fin j):Array Value)[o]?)/\(∀o,w'.cell? ⟨w.heap.size+1,o,none⟩=((jI b xa xc):Array Value)[o]?))
    (first
      |with_reducible exact kb.drew (kb.of K.o U.o (g' _ _))
      |with_reducible exact ab.o
      |with_reducible exact al.o)
    (first
      |(go_at_call 73;refine(r0 S _ b xa xc (aj.o.c' (‹BW w1 _/\_›).1) ap).mono ?_;rintro e aL⟨ys,ia,ic,au,rfl,ar,aA⟩
        have av:=Hd ar;have ab:=Hd (kb.of K.o U.o (d' (‹BW w1 _/\_›).1 aA));have ay:Hi (ys.length<=64):=(by show _<=_;rw [au.o];simp [qv];omega);clear ar)
      |(go_at_call 72;refine UR (tg S _ _ b xa ia xc ic ys (aj.o.c' ab.o.1) f1 az ap av.o ay.o) λaM hb5=> ?_
        have al:=Hd (kb.of K.o U.o (d' ab.o.1 hb5));rw [show iD 15 (mg (rY b ys))=zg b from by rw [au.o];rfl]))
   have aq:=d' Y.o (d' hb1 al.o.1);have V:(zg b).tmod b.work=zg b % b.work:=Ik (Eq b).1;by_cases G:zg b % b.work=0
   ·have y:Hi (iN j b=0):=by show _=_;rw [ad.o,g7 ⟨ax.o,G⟩]
    have aF:((zg b).tmod b.work != 0)=false:=(by rw [V,G];rfl);clear V G;go_wp2;go_ret;exact⟨g2 y.o.symm,aq⟩
   ·have y:Hi (iN j b=17):=by show _=_;rw [ad.o,g3 λh=>G h.2]
    have aF:((zg b).tmod b.work != 0)=true:=(by rw [V,iB];exact G);clear V G;go_wp2;go_ret;exact⟨g2 y.o.symm,aq⟩
  ·have y:Hi (iN j b=17):=by show _=_;rw [ad.o,g3 λh=>z h.1]
   have ah:(b.work==j)=false:=(by rw [je];exact z);have ai:(b.work != j)=true:=(by rw [iB];exact z);have af:=g0 U.o;have ag:=g0 K.o;go_wp2;refine m6 ?_
   repeat (first|go_big_quiet_step (fail)|quiet_step (fail))
   refine lz ?_;intro w2 aC;clear af ag;go_wp2;go_ret;exact⟨g2 y.o.symm,d' Y.o (d' hb1 aC)⟩
 ·have y:Hi (iN j b=jX b):=by show _=_;unfold iN;rw [g3 u]
  have ah:(jX b==0)=false:=(by rw [je];exact u);have ai:(jX b != 0)=true:=(by rw [iB];exact u);obtain⟨r,hr⟩:=iF (jX b);have aw:=Hd hr;rw [hr]at ah ai⊢;clear hr u;go_wp2;go_ret;exact⟨g2 (by rw [y.o,aw.o]),d' Y.o hb1⟩
end Go.Proofs.YtjdiofjjoefnhaaGreatDoor
