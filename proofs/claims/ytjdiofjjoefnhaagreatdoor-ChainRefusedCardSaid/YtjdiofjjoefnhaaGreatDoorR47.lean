/- The reference of blocks: validity, bytes that are named, identifier. -/
import Derived.Test.YtjdiofjjoefnhaaGreatDoorMBlk
set_option maxRecDepth 100000
set_option maxHeartbeats 4000000
namespace Go.Proofs.YtjdiofjjoefnhaaGreatDoor
open Tryz Go.ChangeShapes Go.WideShapes Go.ChangeAt Go.RowKit Go.Sort
theorem C7 {t:jO}(y:hF t=0):(encS t t.proof).length<=1200000:=by
 obtain⟨f1,z,j,G,K,U⟩:=mt y;have h1:=tv t.outs (λo u=>by rw [j o u];omega);unfold encS;simp only [U3,hA,kC,jV];simp;omega
theorem Own.lower {α:Type}{r:kS α}{base base':Nat}{e:TypeId}{F:UO}{w:World}{v:Value}{xs:List α}(h:Own r base e F w v xs)(G:base'<=base):Own r base' e F w v xs:=by
 obtain⟨S,css,z,U,K,hr,j⟩:=h;refine⟨S,css,z,U,K,hr,j.1,?_⟩;rcases j.2 with u|⟨g,cap,cur,h1,h2,y⟩
 ·exact .inl u
 ·exact .inr ⟨g,cap,cur,h1,iu G h2,y⟩
theorem GJ (S:UO)(w:World)(t:jO)(ma oa pa:UP)(mc oc pc:Nat)(h:ks S w t ma oa pa mc oc pc):
 Calls prog 104 #[.agg (jQ t ma mc oa oc pa pc)] w (Rt w (U2 (zJ t))):=by
 have y:=jc w (.cells (jQ t ma mc oa oc pa pc) 87);have K:=Hd (gY w (.cells (jQ t ma mc oa oc pa pc) 87));obtain⟨U,H⟩:=ik y (h.c' y);clear h y;go_in;go_upto_region 1 with(fail);generalize w.alloc (.cells (jQ t ma mc oa oc pa pc) 87)=W at*;obtain⟨z,G⟩:=a' K.o;go_wp2_with fail;refine UR (mw S W t ma oa pa mc oc pc H.o) λw1 hb1=> ?_;clear z G;by_cases j:hF t=0
 ·have u:Hi (zJ t=iD 14 (mg (encS t t.proof))):=by show _=_;unfold zJ;rw [g7 j]
  have Y:Hi ((encS t t.proof).length<=1200000):=C7 j;obtain⟨f1,ao,af,ag,ap,aq⟩:=mt j;rw [j];clear j;obtain⟨z,G⟩:=a' (b' hb1 K.o);go_wp2_with fail;refine(rN S w1 t ma oa pa mc oc pc (H.o.c' hb1) UN UN (λo ai=>by rw [af o ai];omega) UN ag UN).mono ?_;rintro e aj⟨ad,ae,rfl,V,hb3⟩;have ab:=Hd V;clear V z G;generalize encS t t.proof=l at*;go_wp2_with fail;refine UR (pZ (λ_=>True) aj 14 UN ad _ ae l rfl ab.o (by have:=Y.o;omega)) λar ah=> ?_;go_wp2;go_ret;exact⟨g2 u.o.symm,d' U.o (d' hb1 (d' hb3 ah))⟩
 ·have u:Hi (zJ t=0):=by show _=_;unfold zJ;rw [g3 j]
  have ak:(hF t==0)=false:=(by rw [je];exact j);have al:(hF t != 0)=true:=(by rw [iB];exact j);obtain⟨r,hr⟩:=iF (hF t);rw [hr]at ak al⊢;clear hr j;go_wp2;go_ret;exact⟨g2 u.o.symm,d' U.o hb1⟩
theorem tG (S:UO)(w:World)(b:hV)(xa:UP)(xc:Nat)(h:i7 S w b xa xc):
 Calls prog 66 #[.agg (jI b xa xc)] w (Rt w (UZ (jX b))):=by
 have aj:=jc w (.cells (jI b xa xc) 44);have ai:=Hd (gY w (.cells (jI b xa xc) 44));obtain⟨H,y⟩:=ik (h.c' aj) aj;clear aj h;go_in;go_upto_region 1 with(fail);generalize w.alloc (.cells (jI b xa xc) 44)=W at*;obtain⟨ae,af⟩:=a' ai.o;by_cases a2:b.f'<1
 ·have j:Hi (jX b=1):=by show _=_;unfold jX;rw [g3 (by unfold k';rw [jk];omega)]
  go_wp2;go_ret;exact⟨g2 j.o.symm,y.o⟩
 ·skip
  by_cases a3:1048576<b.f'
  ·have j:Hi (jX b=1):=by show _=_;unfold jX;rw [g3 (by unfold k';rw [jk];omega)]
   go_wp2;go_ret;exact⟨g2 j.o.symm,y.o⟩
  ·skip
   by_cases a4:b.work<1
   ·have j:Hi (jX b=1):=by show _=_;unfold jX;rw [g3 (by unfold k';rw [jk];omega)]
    go_wp2;go_ret;exact⟨g2 j.o.symm,y.o⟩
   ·skip
    by_cases a5:65536<b.work
    ·have j:Hi (jX b=1):=by show _=_;unfold jX;rw [g3 (by unfold k';rw [jk];omega)]
     go_wp2;go_ret;exact⟨g2 j.o.symm,y.o⟩
    ·skip
     by_cases a6:18446744069414584321<=b.parent
     ·have j:Hi (jX b=1):=by show _=_;unfold jX;rw [g3 (by unfold k';rw [jk];omega)]
      go_wp2;go_ret;exact⟨g2 j.o.symm,y.o⟩
     ·skip
      by_cases a7:18446744069414584321<=b.hJ
      ·have j:Hi (jX b=1):=by show _=_;unfold jX;rw [g3 (by unfold k';rw [jk];omega)]
       go_wp2;go_ret;exact⟨g2 j.o.symm,y.o⟩
      ·skip
       by_cases a8:64<(b.hQ.length:Int)
       ·have j:Hi (jX b=1):=by show _=_;unfold jX;rw [g3 (by unfold k';rw [jk];omega)]
        go_wp2;go_ret;exact⟨g2 j.o.symm,y.o⟩
       ·skip
        have ah:Hi (k' b=true):=Hd (by unfold k';rw [jk];omega);have bf:b.hQ.length<=64:=UN;go_wp2_with fail;clear ae af;go_loopw [3,4] (λaT al wr=> ∃k:Nat,k<=b.hQ.length/\al= UZ k/\aT= UZ (k9 (b.hQ.take k))/\Hi (k9 (b.hQ.take k)<=1200000*k)/\Hi ((b.hQ.take k).all (λt=>hF t==0)=true)/\BW W wr) (λ_ al _=>b.hQ.length-(intOf al).toNat)
        case atStart=>exact⟨0,iy _,rfl,rfl,by show _<=_;simp [k9],by show _=_;simp,g' _ _⟩
        case round=>
         obtain⟨k,a9,rfl,rfl,av,ag,G⟩:=hrel;obtain⟨ae,af⟩:=a' (b' G ai.o);by_cases hlt:k<b.hQ.length
         ·obtain⟨aX,off,ma,oa,pa,mc,oc,pc,rfl,a1,ht,c0,c1,c2,K,z,U,V,Y,ab,ad⟩:=oq (my.c' H.o.hQ G) k hlt
          have aq:=Hd (uK b.hQ k hlt);have ax:=Hd (jW (λt=>hF t==0) b.hQ k hlt);have ay:Hi (hF b.hQ[k]≠0->b.hQ.all (λt=>hF t==0)=false):=λu=>all_false _ b.hQ k hlt (by simpa using u);have az:=Hd (oJ c0 (oJ c1 (oJ c2 (oJ K (oJ z (oJ U (oJ V (oJ Y (oJ ab ad)))))))));generalize b.hQ[k]=t at*;have ar:=Hd ht;have bb:=av.o;generalize aN:k9 (b.hQ.take k)=aw at*;clear aN ht;go_wp2_with fail;refine UR (mw _ wr t ma oa pa mc oc pc ar.o) λaU hb3=> ?_;clear ae af c0 c1 c2 K z U V Y ab ad;by_cases u:hF t=0
          ·have aC:=Hd u
           have aA:Hi ((qM t).length=(encS t t.proof).length):=Hd (by unfold qM;rw [g7 u]);have ao:Hi ((encS t t.proof).length<=1200000):=C7 u;obtain⟨f1,aY,aL,aM,aZ,a0⟩:=mt u;rw [u];clear u;obtain⟨ae,af⟩:=a' (b' (d' G hb3) ai.o);obtain⟨c0,c1,c2,K,z,U,V,Y,ab,ad⟩:=az.o;have d0:=hb3.cell (ko c0) |>.trans c0;have d1:=hb3.cell (ko c1) |>.trans c1;have aD:=hb3.cell (ko c2) |>.trans c2;have aE:=hb3.cell (ko K) |>.trans K;have aF:=hb3.cell (ko z) |>.trans z;have aG:=hb3.cell (ko U) |>.trans U;have aH:=hb3.cell (ko V) |>.trans V;have aI:=hb3.cell (ko Y) |>.trans Y;have aJ:=hb3.cell (ko ab) |>.trans ab;have aK:=hb3.cell (ko ad) |>.trans ad;clear c0 c1 c2 K z U V Y ab ad;go_wp2_with fail
           refine(rN _ aU t ma oa pa mc oc pc (ar.o.c' hb3) UN UN (λo aQ=>by rw [aL o aQ];omega) UN aM UN).mono ?_;rintro e bg⟨aW,z,rfl, -,aO⟩;clear ae af d0 d1 aD aE aF aG aH aI aJ aK;rw [<-aA.o]at ao⊢;have aP:=ao.o;have au:(aw:Int)+(qM t).length=((aw+(qM t).length:Nat):Int):=UN;have aV:=Hd au;clear au;obtain⟨m,ak⟩:=iF ((qM t).length);have ap:=Hd ak;rw [ak]at aP⊢;clear ak;go_wp2;go_roundw
           case rel=>exact⟨k+1,UN,by go_num,by rw [aq.o,ap.o];go_num,by show _<=_;rw [aq.o,ap.o];omega,by show _=_;rw [ax.o,ag.o,aC.o];rfl,d' G (d' hb3 aO)⟩
           case measure=>exact UY
          ·have j:Hi (jX b=1):=by show _=_;unfold jX;rw [g7 ah.o,g3 (by rw [ay.o u];simp)]
           have bh:(hF t==0)=false:=(by rw [je];exact u);have bi:(hF t != 0)=true:=(by rw [iB];exact u);clear u;generalize hF t=r at*;go_wp2;go_ret;exact⟨g2 j.o.symm,d' y.o (d' G hb3)⟩
         ·obtain rfl:k=b.hQ.length:=UN
          rw [Sw]at av ag⊢;by_cases be:2097152<(k9 b.hQ:Int)
          ·have j:Hi (jX b=3):=by show _=_;unfold jX;rw [g7 ah.o,g7 ag.o,g3 UN]
           go_wp2;go_ret;exact⟨g2 j.o.symm,d' y.o G⟩
          ·have j:Hi (jX b=0):=by show _=_;unfold jX;rw [g7 ah.o,g7 ag.o,g7 UN]
           go_wp2;go_ret;exact⟨g2 j.o.symm,d' y.o G⟩
theorem Dq (S:UO)(w:World)(b:hV)(xa:UP)(xc:Nat)(h:i7 S w b xa xc)(hh:1<=b.f')(b0:b.f'<=1048576)(b1:b.hQ.length<=64):
 Calls prog 103 #[.agg (jI b xa xc)] w (lJ w.heap.size w (wh b)):=by
 have d0:=iE h.parent;have ay:=iE h.hJ;have az:=iE h.work;have aA:=iE h.e';have ah:=jc w (.cells (jI b xa xc) 44);have z:=Hd (gY w (.cells (jI b xa xc) 44));obtain⟨H,ap⟩:=ik (h.c' ah) ah;clear ah h;go_in;go_upto_region 1 with(fail);generalize w.alloc (.cells (jI b xa xc) 44)=W at*;obtain⟨j,y⟩:=a' z.o;go_wp2_with fail;refine(i3 W b.parent d0.1 d0.2 8 UN).mono ?_;intro e w0 h;obtain⟨br,c0,rfl,aO, -,aC⟩:=h.read;have a8:=Hd aO;clear h aO;have b4:(hN 8 b.parent).length=8:=hA _ _;clear j y;obtain⟨j,y⟩:=a' (b' aC z.o);go_wp2_with fail;refine(CJ w0 b.f' UN UN).mono ?_;intro e bV h;obtain⟨bt,bA,rfl, -,aW,aE⟩:=h.read;have bn:=Hd aW;have aJ:=d' aC aE;have bF:=aJ.size;have bh:=Hd (a8.o.c' aE);clear h aW;have aq:Hi ((hN 8 b.parent).length+(hN 4 b.f').length<=maxLen/\((hN 8 b.parent).length+(hN 4 b.f').length)*1<=140737488355328):=by simp only [hA];unfold maxLen;constructor<;>omega
 go_wp2_with (at_builtin;refine kw (k:= .u8) (v:=(.slice br (hN 8 b.parent).length c0)) (u:= .slice bt (hN 4 b.f').length bA) (w0:=W) (B:=W.heap.size) (wr:=bV) (xs:=(hN 8 b.parent)) (ys:=hN 4 b.f') rfl _ _ rfl iU rfl rfl aJ bF bh.o bn.o aq.o.1 aq.o.2 ?_)
 intro v1 w1 aP hb1;have ai:=Own.mono aP (F':=λx=>False\/W.heap.size<=x) λx _ h=>by first|exact h|exact .inr h
 obtain⟨G,Y⟩:=iF ((hN 8 b.parent)++hN 4 b.f');have a3:=Hd Y;have bK:G.length=(hN 8 b.parent).length+(hN 4 b.f').length:=by rw [<-Y,U3]
 rw [Y]at ai;have a9:=Hd ai;clear ai aP Y;simp only [hA]at bK;clear j y;obtain⟨j,y⟩:=a' (b' hb1 z.o);go_wp2_with fail;refine(i3 w1 b.hJ ay.1 ay.2 8 UN).mono ?_;intro e bW h;obtain⟨bv,bB,rfl, -,aX,aF⟩:=h.read;have HR2:=Hd aX;have aK:=d' hb1 aF;have bG:=aK.size;have bi:=Hd (a9.o.c' aF);clear h aX;have ar:Hi (G.length+(hN 8 b.hJ).length<=maxLen/\(G.length+(hN 8 b.hJ).length)*1<=140737488355328):=by simp only [hA];unfold maxLen;constructor<;>omega
 go_wp2_with (at_builtin;refine kw (k:= .u8) (v:=v1) (u:= .slice bv (hN 8 b.hJ).length bB) (w0:=W) (B:=W.heap.size) (wr:=bW) (xs:=G) (ys:=hN 8 b.hJ) rfl _ _ rfl iU rfl rfl aK bG bi.o HR2.o ar.o.1 ar.o.2 ?_)
 intro v2 w2 aQ hb2;have aj:=Own.mono aQ (F':=λx=>False\/W.heap.size<=x) λx _ h=>by first|exact h|exact .inr h
 obtain⟨K,ab⟩:=iF (G++hN 8 b.hJ);have a4:=Hd ab;have bL:K.length=G.length+(hN 8 b.hJ).length:=by rw [<-ab,U3]
 rw [ab]at aj;have bb:=Hd aj;clear aj aQ ab;simp only [hA]at bL;clear j y;obtain⟨j,y⟩:=a' (b' hb2 z.o);go_wp2_with fail;refine(i3 w2 b.work az.1 az.2 8 UN).mono ?_;intro e bX h;obtain⟨bw,bC,rfl, -,aY,aG⟩:=h.read;have bo:=Hd aY;have aL:=d' hb2 aG;have bH:=aL.size;have bj:=Hd (bb.o.c' aG);clear h aY;have au:Hi (K.length+(hN 8 b.work).length<=maxLen/\(K.length+(hN 8 b.work).length)*1<=140737488355328):=by simp only [hA];unfold maxLen;constructor<;>omega
 go_wp2_with (at_builtin;refine kw (k:= .u8) (v:=v2) (u:= .slice bw (hN 8 b.work).length bC) (w0:=W) (B:=W.heap.size) (wr:=bX) (xs:=K) (ys:=hN 8 b.work) rfl _ _ rfl iU rfl rfl aL bH bj.o bo.o au.o.1 au.o.2 ?_)
 intro bQ bT aT hb3;have ak:=Own.mono aT (F':=λx=>False\/W.heap.size<=x) λx _ h=>by first|exact h|exact .inr h
 obtain⟨U,ad⟩:=iF (K++hN 8 b.work);have a5:=Hd ad;have bM:U.length=K.length+(hN 8 b.work).length:=by rw [<-ad,U3]
 rw [ad]at ak;have be:=Hd ak;clear ak aT ad;simp only [hA]at bM;clear j y;obtain⟨j,y⟩:=a' (b' hb3 z.o);go_wp2_with fail;refine(i3 bT b.e' aA.1 aA.2 8 UN).mono ?_;intro e bY h;obtain⟨bx,bD,rfl, -,aZ,aH⟩:=h.read;have bp:=Hd aZ;have aM:=d' hb3 aH;have bI:=aM.size;have bk:=Hd (be.o.c' aH);clear h aZ;have av:Hi (U.length+(hN 8 b.e').length<=maxLen/\(U.length+(hN 8 b.e').length)*1<=140737488355328):=by simp only [hA];unfold maxLen;constructor<;>omega
 go_wp2_with (at_builtin;refine kw (k:= .u8) (v:=bQ) (u:= .slice bx (hN 8 b.e').length bD) (w0:=W) (B:=W.heap.size) (wr:=bY) (xs:=U) (ys:=hN 8 b.e') rfl _ _ rfl iU rfl rfl aM bI bk.o bp.o av.o.1 av.o.2 ?_)
 intro bR bU aU aD;have al:=Own.mono aU (F':=λx=>False\/W.heap.size<=x) λx _ h=>by first|exact h|exact .inr h
 obtain⟨V,ae⟩:=iF (U++hN 8 b.e');have a6:=Hd ae;have bN:V.length=U.length+(hN 8 b.e').length:=by rw [<-ae,U3]
 rw [ae]at al;have bf:=Hd al;clear al aU ae;simp only [hA]at bN;clear j y;obtain⟨j,y⟩:=a' (b' aD z.o);go_wp2_with fail;refine(pS bU b.hQ.length UN).mono ?_;intro e bZ h;obtain⟨bz,bE,rfl, -,a0,aI⟩:=h.read;have bq:=Hd a0;have aN:=d' aD aI;have bJ:=aN.size;have bm:=Hd (bf.o.c' aI);clear h a0;have aw:Hi (V.length+(hN 4 (b.hQ.length:Int)).length<=maxLen/\(V.length+(hN 4 (b.hQ.length:Int)).length)*1<=140737488355328):=by simp only [hA];unfold maxLen;constructor<;>omega
 go_wp2_with (at_builtin;refine kw (k:= .u8) (v:=bR) (u:= .slice bz (hN 4 (b.hQ.length:Int)).length bE) (w0:=W) (B:=W.heap.size) (wr:=bZ) (xs:=V) (ys:=hN 4 (b.hQ.length:Int)) rfl _ _ rfl iU rfl rfl aN bJ bm.o bq.o aw.o.1 aw.o.2 ?_)
 intro bS b5 aV hb5;have ao:=Own.mono aV (F':=λx=>False\/W.heap.size<=x) λx _ h=>by first|exact h|exact .inr h
 obtain⟨ax,af⟩:=iF (V++hN 4 (b.hQ.length:Int));have a7:=Hd af;have bO:ax.length=V.length+(hN 4 (b.hQ.length:Int)).length:=by rw [<-af,U3]
 rw [af]at ao;have bg:=Hd ao;clear ao aV af;simp only [hA]at bO;have a2:Hi (wh b=ax):=by
  show _=_;rw [<-a7.o,<-a6.o,<-a5.o,<-a4.o,<-a3.o];rfl
 go_wp2;go_ret;rw [a2.o];have a1:=ap.o.size;have bP:=(bg.o.lower a1).mono (F':=λx=>False\/w.heap.size<=x) λk _ ag=>by
  rcases ag with ag|ag
  ·exact .inl ag
  ·exact .inr UN
 exact⟨bS,rfl,bP,ap.o.trans (hb5.mono a1)⟩
def MP (b:hV)(w:World)(e:Ending)(w':World):Prop:= ∃(ys:List Int) (a:UP) (cap:Nat),Hi (ys=rY b (qv b.hQ))/\Hi (ys.length<=1000)/\e= .returned (.slice a ys.length cap)/\hD.rel (λ_=>True) w' [.slice a ys.length cap] ys/\BW w w'
theorem EU (S:UO)(w:World)(b:hV)(xa:UP)(xc:Nat)(h:i7 S w b xa xc)(hh:1<=b.f')(aW:b.f'<=1048576)(aX:b.hQ.length<=64):
 Calls prog 68 #[.agg (jI b xa xc)] w (MP b w):=by
 have ab:=jc w (.cells (jI b xa xc) 44);have aj:=Hd (gY w (.cells (jI b xa xc) 44));obtain⟨H,aw⟩:=ik (h.c' ab) ab;clear ab h;go_in;go_upto_region 1 with(fail);generalize w.alloc (.cells (jI b xa xc) 44)=W at*;obtain⟨ag,ah⟩:=a' aj.o;go_wp2_with fail;refine(Dq S W b xa xc H.o hh aW aX).mono ?_;intro e w0 h;obtain⟨a3,c0,rfl,aq, -,al⟩:=h.read;obtain⟨G,ad⟩:=ik aq (Hg b);obtain⟨K,V⟩:=iF (wh b);have ax:=Hd V;rw [V]at G ad⊢;have aY:Hi (K.length<=40):=Hd (by have:=ad.o;omega);clear h aq ad ag ah V;go_wp2;go_loopw [3,4] (λa0 af wr=> ∃(k:Nat) (L:List Int),k<=b.hQ.length/\af= UZ k/\Own ve W.heap.size 5 (λx=>False\/W.heap.size<=x) wr a0 L/\BW W wr/\Hi (L=K++ix (qv (b.hQ.take k)))/\L.length<=40+8*k) (λ_ af _=>b.hQ.length-(intOf af).toNat)
 case atStart=>exact⟨0,K,iy _,rfl,G.o,al,by show _=_;simp [qv,ix],by have:=aY.o;omega⟩
 case round=>
  obtain⟨k,L,a8,rfl,au,z,Y,a6⟩:=hrel;clear al G;have j:=Hd au;clear au;obtain⟨ag,ah⟩:=a' (b' z aj.o);by_cases hlt:k<b.hQ.length
  ·obtain⟨a4,off,ma,oa,pa,mc,oc,pc,rfl,a7,ht,c0,c1,c2,aK,aL,aM,aN,aO,aP,U⟩:=oq (my.c' H.o.hQ z) k hlt
   have aF:Hi (ix (qv (b.hQ.take (k+1)))=ix (qv (b.hQ.take k))++hN 8 (zJ b.hQ[k])):=by
    show _=_;rw [z4 hlt];unfold qv;rw [T0];exact n6 _ _
   generalize b.hQ[k]=t at*;have aG:=Hd ht;clear ht;go_wp2_with fail;refine UR (GJ _ wr t ma oa pa mc oc pc aG.o) λa1 hb3=> ?_;have a5:=Ep t;have aV:=d' z hb3;have aA:=Hd (j.o.c' hb3);generalize zJ t=id at*;clear ag ah c0 c1 c2 aK aL aM aN aO aP U j;go_wp2_with fail;refine(i3 a1 id UN UN 8 UN).mono ?_;intro e a2 h;obtain⟨aJ,aQ,rfl, -,av,ao⟩:=h.read;have aE:=Hd av;have ap:=d' aV ao;have aT:=ap.size;have aC:=Hd (aA.o.c' ao);clear h av;have ai:Hi (L.length+(hN 8 id).length<=maxLen/\(L.length+(hN 8 id).length)*1<=140737488355328):=(by simp only [hA];unfold maxLen;constructor<;>omega);go_wp2_with (at_builtin;refine kw (k:= .u8) (v:=u3) (u:= .slice aJ (hN 8 id).length aQ) (w0:=W) (B:=W.heap.size) (wr:=a2) (xs:=L) (ys:=hN 8 id) rfl _ _ rfl iU rfl rfl ap aT aC.o aE.o ai.o.1 ai.o.2 ?_)
   intro a9 bb ar aU;have ae:=Own.mono ar (F':=λx=>False\/W.heap.size<=x) λx _ h=>(by first|exact h|exact .inr h);obtain⟨ak,y⟩:=iF (L++hN 8 id);have ay:=Hd y;have aZ:ak.length=L.length+(hN 8 id).length:=(by rw [<-y,U3]);rw [y]at ae;have az:=Hd ae;clear ae ar y;simp only [hA]at aZ;go_wp2;go_roundw
   case rel=>exact⟨k+1,ak,UN,by go_num,az.o,aU,by show _=_;rw [<-ay.o,Y.o,aF.o,Tt],UN⟩
   case measure=>exact UY
  ·obtain rfl:k=b.hQ.length:=UN
   rw [Sw]at Y;obtain⟨aI,U,rfl, -, -⟩:=g4.form j.o.slice;have aD:=Hd (hD.mono j.o.slice (S':=λ_=>True) λ_ _ _=>trivial);have aH:Hi (L=rY b (qv b.hQ)):=Hd (by rw [Y.o,<-ax.o];rfl);clear j;go_wp2;go_ret;exact⟨L,aI,U,aH,by show _<=_;omega,rfl,aD.o,d' aw.o z⟩
theorem t6 (S:UO)(w:World)(b:hV)(xa:UP)(xc:Nat)(h:i7 S w b xa xc):
 Calls prog 19 #[.agg (jI b xa xc)] w (Rt w (U2 (iv b))):=by
 have y:=jc w (.cells (jI b xa xc) 44);have U:=Hd (gY w (.cells (jI b xa xc) 44));obtain⟨H,K⟩:=ik (h.c' y) y;clear y h;go_in;go_upto_region 1 with(fail);generalize w.alloc (.cells (jI b xa xc) 44)=W at*;obtain⟨z,G⟩:=a' U.o;go_wp2_with fail;refine UR (tG S W b xa xc H.o) λw1 hb1=> ?_;clear z G;by_cases j:jX b=0
 ·have u:Hi (iv b=iD 15 (mg (rY b (qv b.hQ)))):=by show _=_;unfold iv;rw [g7 j];rfl
  obtain⟨f1,af,ao,ap,aq,ar,ag⟩:=kQ j;rw [j];clear j;obtain⟨z,G⟩:=a' (b' hb1 U.o);go_wp2_with fail;refine(EU S w1 b xa xc (H.o.c' hb1) f1 af ag).mono ?_;rintro e aj⟨ys,ad,ae,Y,ai,rfl,V,hb3⟩;have ab:=Hd V;rw [<-Y.o]at u;clear V z G Y;go_wp2_with fail;refine UR (pZ (λ_=>True) aj 15 UN ad _ ae ys rfl ab.o (by have:=ai.o;omega)) λau ah=> ?_;go_wp2;go_ret;exact⟨g2 u.o.symm,d' K.o (d' hb1 (d' hb3 ah))⟩
 ·have u:Hi (iv b=0):=by show _=_;unfold iv;rw [g3 j]
  have ak:(jX b==0)=false:=(by rw [je];exact j);have al:(jX b != 0)=true:=(by rw [iB];exact j);obtain⟨r,hr⟩:=iF (jX b);rw [hr]at ak al⊢;clear hr j;go_wp2;go_ret;exact⟨g2 u.o.symm,d' K.o hb1⟩
end Go.Proofs.YtjdiofjjoefnhaaGreatDoor
