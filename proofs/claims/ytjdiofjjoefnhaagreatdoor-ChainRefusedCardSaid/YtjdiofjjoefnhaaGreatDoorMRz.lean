/- The reference's statement of a transaction. -/
import Derived.Test.YtjdiofjjoefnhaaGreatDoorMTxR
import Derived.Test.YtjdiofjjoefnhaaGreatDoorMRq
set_option maxRecDepth 100000
set_option maxHeartbeats 16000000
namespace Go.Proofs.YtjdiofjjoefnhaaGreatDoor
open Tryz Go.ChangeShapes Go.WideShapes Go.ChangeAt Go.RowKit Go.Sort
theorem E3 {t:jO}(u:hF t=0):kn t.marks t.acc t.e'<18446744069414584321:=by
 rw [tH u];split
 ·exact(nX _ _).2
 ·rename_i K
  have y:(k5 t.marks&&(lL t.outs&&(kK t&&oh t)))=true:=by
   cases h:(k5 t.marks&&(lL t.outs&&(kK t&&oh t)))with
   |true=>rfl
   |false=>rw [mr h]at u;cases u
  simp only [kg]at y;have j:=y.1;rw [oz]at j;simp only [kg]at j;have z:=j.2.1
  cases G:jC (t.marks.getD 0 0)with
  |true=>exact mU G
  |false=>
   have:h' t.marks=false:=jp (k:=0) G UN;rw [this]at z;cases z
structure vp (D:Nat)(t:jO)(ma:UP)(mc:Nat)(A:Array Value)(w:World)(q C:Nat)(bd:Int)(v1 v2:Value)(wr:World):Prop where
 AP:ze A w wr
 box:wr.heap[q]? =some (.cells #[UZ D,t.g5,.slice ma t.marks.length mc,v1,v2,t.iK,t.wd,t.jn,t.acc,bd] 141 (0,0))
 lay:w.heap.size+1<q
 qC:q<C
 base:C<=wr.heap.size
theorem vp.kept {D:Nat}{t:jO}{ma:UP}{mc:Nat}{A:Array Value}{w:World}{q C:Nat}{bd:Int}{v1 v2:Value}{wr w2:World}(h:vp D t ma mc A w q C bd v1 v2 wr)(j:Kept (λk=>k<C) wr w2):vp D t ma mc A w q C bd v1 v2 w2:=
 have:=h.lay;have:=h.qC
 ⟨h.AP.kept (j.mono λk _ h=>UN),hE j h.box h.qC,h.lay,h.qC,iu h.base j.size⟩
theorem vp.c' {D:Nat}{t:jO}{ma:UP}{mc:Nat}{A:Array Value}{w:World}{q C:Nat}{bd:Int}{v1 v2:Value}{wr w2:World}(h:vp D t ma mc A w q C bd v1 v2 wr)(j:BW wr w2):vp D t ma mc A w q C bd v1 v2 w2:=h.kept (Kept.of_below j)
theorem vp.store {D:Nat}{t:jO}{ma:UP}{mc:Nat}{A:Array Value}{w:World}{q C:Nat}{bd:Int}{v1 v2 u1 u2:Value}{wr:World}(h:vp D t ma mc A w q C bd v1 v2 wr)(i:Nat)(v:Value)(u:(#[UZ D,t.g5,.slice ma t.marks.length mc,v1,v2,t.iK,t.wd,t.jn,t.acc,bd]:Array Value).setIfInBounds i v= #[UZ D,U2 t.g5,.slice ma t.marks.length mc,u1,u2,U2 t.iK,U2 t.wd,U2 t.jn,U2 t.acc,U2 bd]):vp D t ma mc A w q C bd u1 u2 (wr.setCell ⟨q,i,none⟩ v):=
 have:=h.lay;have:=h.qC;have j:Kept (λk=>k≠q) wr (wr.setCell ⟨q,i,none⟩ v):=(Kept.refl _ _).setCell (λ_ h=>h rfl) _
 ⟨h.AP.kept (j.mono λk _ h=>UN),u▸h6 h.box,h.lay,h.qC,by rw [Ub];exact h.base⟩
def IA (D:Nat)(t:jO)(ma:UP)(mc:Nat)(w:World)(e:Ending)(w':World):Prop:=
 ∃ca ra cc rc,e= .returned (.agg #[UZ D,t.g5,.slice ma t.marks.length mc,.slice ca t.outs.length cc,.slice ra t.outs.length rc,t.iK,t.wd,t.jn,t.acc,(wm t)])/\vn (λ_=>True) w' (mO D t (wm t)) ma ca ra mc cc rc/\BW w w'
theorem zw (w:World)(t:jO)(ma z pa:UP)(mc oc pc:Nat)(h:ks (λk=>k<w.heap.size) w t ma z pa mc oc pc)(aD:hF t=0)(D:Nat)(_hD:D<=12):
 Calls prog 88 #[.agg (jQ t ma mc z oc pa pc),UZ D] w (IA D t ma mc w):=by
 obtain⟨f1,cH,b9,cI,cJ,cK⟩:=mt aD;have hb1:=hd (jc w (.cells (jQ t ma mc z oc pa pc) 87)) (.cells #[I0,U0,S0,S0,S0,U0,U0,U0,U0,U0] 141);obtain⟨q2,q1⟩:=ji w (.cells (jQ t ma mc z oc pa pc) 87) (.cells #[I0,U0,S0,S0,S0,U0,U0,U0,U0,U0] 141);have bG:ze (jQ t ma mc z oc pa pc) w ((w.alloc (.cells (jQ t ma mc z oc pa pc) 87)).alloc (.cells #[I0,U0,S0,S0,S0,U0,U0,U0,U0,U0] 141)):=ze.of hb1 q1 q2;obtain⟨H,aJ,bk,bi⟩:=oX (h.c' hb1) aD bG (E3 aD);clear hb1 q1 q2 h aD bG b9;go_in;go_wp2_with fail;generalize (w.alloc (.cells (jQ t ma mc z oc pa pc) 87)).alloc (.cells #[I0,U0,S0,S0,S0,U0,U0,U0,U0,U0] 141)=W at*
 refine UR (mw _ W t ma z pa mc oc pc H.o) λw1 hb1=> ?_;rw [aJ.o];obtain⟨V,az⟩:=ik (bk.o.next hb1) (H.o.c' hb1);clear bk H hb1;obtain⟨bd,ai⟩:=iF (wm t);have a6:=Hd ai;clear ai;go_wp2_with fail;go_cut [5]from 11 (λbK wc=> ∃q C,bK= .pointer (some ⟨q,0,none⟩)/\vp D t ma mc (jQ t ma mc z oc pa pc) w q C bd S0 S0 wc/\ks (λk=>k<w.heap.size) wc t ma z pa mc oc pc)
 case first=>
  have bH:=V.o.2.1
  go_region_held3 (λw'=>BW w1 w'/\(∀o,w'.cell? ⟨w.heap.size,o,none⟩=((jQ t ma mc z oc pa pc):Array Value)[o]?))
   (first
     |with_reducible exact xf.drew (xf.of V.o.2.2.2.1 (g' _ _))
     |with_reducible exact ae.o
     |with_reducible exact xf.of V.o.2.2.2.1 (hd ae.o.1 _)
     |with_reducible exact xf.drew (xf.of V.o.2.2.2.1 (hd (g' _ _) _))
     |exact xf.of V.o.2.2.2.1 (m4 ae.o.1 (g9 _) [UZ D,t.g5,.slice ma t.marks.length mc,S0,S0,t.iK,t.wd,t.jn,t.acc,bd] 0 ae.o.1.size))
   (first
     |(go_at_call 137;have a7:=Hd (‹BW w1 _/\_› :xf (jQ t ma mc z oc pa pc) w.heap.size w1 _);refine UR (GY _ _ t ma z pa mc oc pc (az.o.c' a7.o.1) aJ.o) λY bw=> ?_
       rw [a6.o];have ae:=Hd (xf.of V.o.2.2.2.1 (d' a7.o.1 bw))
       first
        |(have aU:Y.heap[w1.heap.size]? =_:=b' bw (gY w1 (.cells #[I0,U0,S0,S0,S0,U0,U0,U0,U0,U0] 141));obtain⟨k0,k1⟩:=a' aU;have HQ:=Hd aU;clear aU)
        |have cA:=ae.o.1.size))
  ·have vP:=hd ae.o.1 (.cells #[UZ D,t.g5,.slice ma t.marks.length mc,S0,S0,t.iK,t.wd,t.jn,t.acc,bd] 141)
   have aI:Hi (vp D t ma mc (jQ t ma mc z oc pa pc) w Y.heap.size (Y.heap.size+1) bd S0 S0 (Y.alloc (.cells #[UZ D,t.g5,.slice ma t.marks.length mc,S0,S0,t.iK,t.wd,t.jn,t.acc,bd] 141))):=
    ⟨V.o.next vP,gY _ _,jg bH cA,pb _,by rw [U4];exact g9 _⟩
   have U:=Hd (az.o.c' vP);clear vP;go_wp2;go_meet
   case rel=>exact⟨Y.heap.size,Y.heap.size+1,rfl,aI.o,U.o⟩
  ·have cw:=ii HQ.o
   have vP:=m4 ae.o.1 (q:=w1.heap.size) (g9 _) [UZ D,t.g5,.slice ma t.marks.length mc,S0,S0,t.iK,t.wd,t.jn,t.acc,bd] 0 ae.o.1.size;have bA:=i2 Y (q:=w1.heap.size) (S:=λk=>k≠w1.heap.size) (λh=>h rfl) [UZ D,t.g5,.slice ma t.marks.length mc,S0,S0,t.iK,t.wd,t.jn,t.acc,bd] 0
   have aK:vp D t ma mc (jQ t ma mc z oc pa pc) w w1.heap.size Y.heap.size bd S0 S0 (Y.setCells w1.heap.size 0 [UZ D,t.g5,.slice ma t.marks.length mc,S0,S0,t.iK,t.wd,t.jn,t.acc,bd]):=
    ⟨V.o.next vP,j3 HQ.o _ rfl,bH,cw,bA.size⟩
   have aN:=az.o.c' vP;simp only [World.setCells,Nat.reduceAdd,nC]at aK aN;obtain⟨aI,U⟩:=ik aK aN;clear vP bA aK aN;go_wp2;go_meet
   case rel=>exact⟨w1.heap.size,Y.heap.size,rfl,aI.o,U.o⟩
 case rest=>
  obtain⟨q,C,rfl,G,ad⟩:=hcut;obtain⟨ah,U⟩:=ik G ad;have bj:Hi (iZ (kn t.marks t.acc t.e')):=yD ad;obtain⟨j,aT⟩:=iF (kn t.marks t.acc t.e');have bh:=Hd aT;rw [aT]at bj bi;have bQ:Hi (∀k:Nat,nj j k=iD 4 [j,(k:Int)]):=λk=>(by unfold nj;rw [g7 bi.o]);clear aT G ad V az;go_wp2;go_loopw [6] (λaV wr=> ∃(k:Nat) (v1 v2:Value),k<=t.outs.length/\aV= UZ k/\vp D t ma mc (jQ t ma mc z oc pa pc) w q C bd v1 v2 wr/\ks (λk=>k<w.heap.size) wr t ma z pa mc oc pc/\Own ib C 24 (λx=>v1.ownBlock=some x) wr v1 ((t.outs.map (·.g6)).take k)/\Own ib C 24 (λx=>v2.ownBlock=some x) wr v2 (lk j k)/\(∀x,v1.ownBlock=some x->v2.ownBlock≠some x)) (λaV _=>t.outs.length-(intOf aV).toNat)
  case atStart=>exact⟨0,S0,S0,iy _,rfl,ah.o,U.o,by simpa using Own.nil _ _ _ _ _,Own.nil _ _ _ _ _,λx h=>by simp [Value.ownBlock]at h⟩
  case round=>
   obtain⟨k,v1,v2,aj,rfl,G,ad,al,au,aQ⟩:=hrel;have bP:=Hd (bQ.o k);have cP:IntKind.u64.wrap (k:Int)=k:=(by rw [jP];omega);clear ah U;by_cases hlt:k<t.outs.length
   ·obtain⟨b,off,ca,cc,cv, -,cN,o1,o2,o3,cj,c0,c1,c2,b8⟩:=mp ad.outs k hlt
    have bT:Hi ((t.outs.map (·.g6)).take (k+1)=(t.outs.map (·.g6)).take k++ [t.outs[k].g6]):=Hd (by rw [z4 (by simpa using hlt)];simp);have bb:Hi (((t.outs.map (·.g6)).take k).length<=4):=Hd (by simp;omega);have be:Hi ((lk j k).length<=4):=Hd (by rw [nA];omega);generalize (t.outs.map (·.g6)).take k=l1 at*;generalize t.outs[k]=o at*;clear cj c1 c2 b8;have cQ:(0:Int)<=(k:Int):=UN;have cR:(k:Int)<(t.outs.length:Int):=UN;have ai:BW wr wr.drew:=(g' _ _).drew;obtain⟨aq,bU⟩:=ik (G.c' ai) (ad.c' ai);have bf:=Hd (show Own ib C 24 (λx=>v1.ownBlock=some x) wr.drew v1 l1 from al.c' ai);have bg:=Hd (show Own ib C 24 (λx=>v2.ownBlock=some x) wr.drew v2 (lk j k)from au.c' ai);obtain⟨a8,cF⟩:=ik aQ o1;have ch:wr.drew.cell? ⟨b,off+k*4,none⟩=some (U2 o.g6):=c0;subst cv;obtain⟨a0,a1⟩:=a' aq.o.box;have cE:=λo'=>(a' (iq (o':=o') G.box)).1;have a3:=aq.o.AP.2.2.1;have bF:Src ib (λ_=>False) (wr.drew.alloc (.cells #[o.g6] 24)) (.slice (some ⟨wr.drew.heap.size,0,none⟩) 1 1) [o.g6]:=Src.one (r:=ib) (y:=o.g6) ⟨rfl,o1⟩ (jx.new wr.drew [o.g6] 24);have bS:=Hd bF;have ce:C<=(wr.drew.alloc (.cells #[o.g6] 24)).heap.size:=iu aq.o.base (hd (g' _ _) (.cells #[o.g6] 24)).size;obtain⟨cB,cC⟩:=a' G.box;have cD:=G.AP.2.2.1;clear G ad al au aQ bF;go_wp2_with fail;clear cB cC cD
    go_region_law (first
     |(refine iV (r:=ib) (base:=C) (v:=v1) (u:= .slice (some ⟨wr.drew.heap.size,0,none⟩) 1 1) (S:=λ_=>False) rfl _ _ rfl iX rfl rfl (Own.c' bf.o (hd (g' _ _) (.cells #[o.g6] 24))) bS.o (λk _ aj=>aj.elim) (λk aj h=>h) (by have:=bb.o;unfold maxLen;simp;omega) (by have:=bb.o;simp;omega) ce ?_
       intro bK aF bB bx co;obtain⟨af,ag,rfl, -, -⟩:=g4.form bB.slice;have ak:Kept (λk=>k<C) (wr.drew.alloc (.cells #[o.g6] 24)) aF:=bx.mono λk _ ak K=>(by have:=(bf.o.lt K).2.2;omega);have ay:=Hd ((aq.o.c' (hd (g' _ _) (.cells #[o.g6] 24))).kept ak);have b4:=Hd ((bU.o.c' (hd (g' _ _) (.cells #[o.g6] 24))).keep (ak.mono λk _ h=>by have ar:k<w.heap.size:=h;have:=aq.o.lay;have:=aq.o.qC;omega));have bp:=Hd ((bg.o.c' (hd (g' _ _) (.cells #[o.g6] 24))).keep (bx.mono λk _ h K=>a8.o k K h));have a9:Hi (∀x,(Value.slice af (l1++ [o.g6]).length ag).ownBlock=some x->v2.ownBlock≠some x):=λx ao K=>by
        rcases co with h|h
        ·rw [h]at ao;exact a8.o x ao K
        ·rw [h]at ao
         have cz:=jR ao;have h2:x<wr.heap.size:=(bg.o.lt K).1;have cL:wr.heap.size+1=x:=(U4 wr (.cells #[o.g6] 24)).symm.trans cz;omega
       have bm:=Hd (Own.tight bB);obtain⟨bI,bJ⟩:=a' ay.o.box))
    all_goals
     have ab:Kept (λk=>k≠q) aF (aF.setCell ⟨q,3,none⟩ (.slice af (l1++ [o.g6]).length ag)):=(Kept.refl _ _).setCell (λ_ h=>h rfl) _;have aG:=Hd (ay.o.store (u1:=(.slice af (l1++ [o.g6]).length ag)) (u2:=v2) 3 (.slice af (l1++ [o.g6]).length ag) rfl);have bt:=Hd (b4.o.keep (ab.mono λk _ h=>by have ar:k<w.heap.size:=h;have:=ay.o.lay;omega));have cO:=ay.o.qC;have bY:=Hd (bm.o.keep (ab.mono λk _ h=>by have:=(bm.o.lt h).2.2;omega));have b0:=Hd (bp.o.keep (ab.mono λk _ h=>by have:=(bp.o.lt h).2.2;omega));clear ab a0 a1 cE a3 ch;go_wp2_with fail;clear bI bJ;generalize aO:aF.setCell ⟨q,3,none⟩ (.slice af (l1++ [o.g6]).length ag)=aW at*
     have cq:(l1++ [o.g6]).length=l1.length+1:=US;rw [cq]at aO;rw [aO];clear aO;have aP:BW aW aW.drew:=(g' _ _).drew;obtain⟨a4,b5⟩:=ik (aG.o.c' aP) (bt.o.c' aP);obtain⟨a0,a1⟩:=a' a4.o.box;have a3:=a4.o.AP.2.2.1
     go_region_law (first
      |(refine iV (r:=ib) (base:=C) (v:=v2) (u:= .slice (some ⟨aY.heap.size,0,none⟩) 1 1) (S:=λ_=>False) rfl _ _ rfl iX rfl rfl (Own.c' bq.o (hd (g' _ _) _)) (Src.one (r:=ib) (y:=nj j k) ⟨rfl,cy.o⟩ (jx.new aY [(nj j k)] 24)) (λk _ aj=>aj.elim) (λk aj h=>h) (by have:=be.o;unfold maxLen;simp;omega) (by have:=be.o;simp;omega) (by rw [U4];have:=ap.o.base;omega) ?_
        intro cS aZ bC bz cp;obtain⟨aw,ax,rfl, -, -⟩:=g4.form bC.slice;have ak:Kept (λk=>k<C) (aY.alloc (.cells #[(nj j k)] 24)) aZ:=bz.mono λk _ ak K=>(by have:=(bq.o.lt K).2.2;omega);have aH:=Hd ((ap.o.c' (hd (g' _ _) (.cells #[(nj j k)] 24))).kept ak);have b7:=Hd ((b6.o.c' (hd (g' _ _) (.cells #[(nj j k)] 24))).keep (ak.mono λk _ h=>by have ar:k<w.heap.size:=h;have:=ap.o.lay;have:=ap.o.qC;omega));have bo:=Hd ((bn.o.c' (hd (g' _ _) (.cells #[(nj j k)] 24))).keep (bz.mono λk _ h K=>a9.o k h K));have br:=Hd (Own.tight bC);have bN:Hi (∀x,(Value.slice af (l1++ [o.g6]).length ag).ownBlock=some x->(Value.slice aw (lk j k++ [nj j k]).length ax).ownBlock≠some x):=λx ao K=>by
         rcases cp with h|h
         ·rw [h]at K;exact a9.o x ao K
         ·rw [h]at K
          have ck:=jR K;have h2:=(bn.o.lt ao).1;rw [U4]at ck;omega
        obtain⟨bI,bJ⟩:=a' aH.o.box)
      |(go_simp;first
         |(go_at_call 138;refine UR (Dz _ _ t ma _ pa mc oc pc b5.o aJ.o) λaX cf=> ?_
           rw [bh.o];have bv:BW aW aX:=d' aP cf;have a5:=Hd (aG.o.c' bv);obtain⟨cW,cX⟩:=a' a5.o.box;have cY:=λo'=>(a' (iq (o':=o') a5.o.box)).1;have bW:=Hd (tD aX 24 bj.o (ir (x:=(k:Int)) UN UN)))
         |(go_at_call 101;refine UR (Ai 4 UN (λ_=>True) _ _ 2 2 [j,(k:Int)] rfl bW.o US) λaY cg=> ?_
           rw [<-bP.o];have aC:=d' bv (d' (jc aX (.cells #[j,(k:Int)] 24)) cg);obtain⟨ap,b6,bn,bq,cy⟩:=zL (aG.o.c' aC) (bt.o.c' aC) (bY.o.c' aC) (b0.o.c' aC) (F1 j k);obtain⟨cT,cU⟩:=a' ap.o.box;have cV:=λo'=>(a' (iq (o':=o') ap.o.box)).1)))
     all_goals
      have ab:Kept (λk=>k≠q) aZ (aZ.setCell ⟨q,4,none⟩ (.slice aw (lk j k++ [nj j k]).length ax)):=(Kept.refl _ _).setCell (λ_ h=>h rfl) _;have bM:=Hd (aH.o.store (u1:=(.slice af (l1++ [o.g6]).length ag)) (u2:=(.slice aw (lk j k++ [nj j k]).length ax)) 4 (.slice aw (lk j k++ [nj j k]).length ax) rfl);have b1:=Hd (b7.o.keep (ab.mono λk _ h=>by have ar:k<w.heap.size:=h;have:=aH.o.lay;omega));have bX:=Hd (bo.o.keep (ab.mono λk _ h=>by have:=(bo.o.lt h).2.2;omega));have bZ:=Hd (br.o.keep (ab.mono λk _ h=>by have:=(br.o.lt h).2.2;omega));clear ab;go_wp2;go_roundw
      case rel=>exact⟨k+1,(.slice af (l1++ [o.g6]).length ag),(.slice aw (lk j k++ [nj j k]).length ax),UN,by go_num,by simpa using bM.o,by simpa using b1.o,by rw [bT.o];simpa using bX.o,by simpa [lk]using bZ.o,by simpa using bN.o⟩
      case measure=>exact UY
   ·obtain rfl:k=t.outs.length:=UN
    have cu:(t.outs.map (·.g6)).take t.outs.length=t.outs.map (·.g6):=TK US;rw [cu]at al;obtain⟨av,c1,rfl, -, -⟩:=g4.form al.slice;obtain⟨a2,c2,rfl, -, -⟩:=g4.form au.slice;have cl:(t.outs.map (·.g6)).length=t.outs.length:=TC ..;have cn:(lk j t.outs.length).length=t.outs.length:=nA _ _;rw [cl]at G;rw [cn]at G
    have bD:=gZ.mono al.slice (S':=λk=>C<=k) λk _ h=>(al.lt h).2.2;have bE:=gZ.mono au.slice (S':=λk=>C<=k) λk _ h=>(au.lt h).2.2;obtain⟨ah,V,bR⟩:=kT G bD bE;obtain⟨a0,a1⟩:=a' G.box;obtain⟨f0,cG⟩:=a' G.AP.2.2.2.2;have a3:=G.AP.2.2.1;have aM:=(j3 (old:= [I0,U0,S0,S0,S0,U0,U0,U0,U0,U0]) G.AP.2.2.2.2 [UZ D,t.g5,.slice ma t.marks.length mc,.slice av t.outs.length c1,.slice a2 t.outs.length c2,t.iK,t.wd,t.jn,t.acc,bd] rfl);have aL:=(i2 wr (q:=w.heap.size+1) (S:=λk=>k≠w.heap.size+1) (λh=>h rfl) [UZ D,t.g5,.slice ma t.marks.length mc,.slice av t.outs.length c1,.slice a2 t.outs.length c2,t.iK,t.wd,t.jn,t.acc,bd] 0);obtain⟨bL,aE⟩: ∃bL,bL=wr.setCells (w.heap.size+1) 0 [UZ D,t.g5,.slice ma t.marks.length mc,.slice av t.outs.length c1,.slice a2 t.outs.length c2,t.iK,t.wd,t.jn,t.acc,bd]:=⟨_,rfl⟩;rw [<-aE]at aM aL;simp only [World.setCells,Nat.reduceAdd,nC]at aE;obtain⟨bV,bO,aA,U⟩:=oX aE aM aL ad;clear G al au bD bE aQ aE aM aL ad;go_wp2_with fail;rw [<-bV.o];obtain⟨cd, -⟩:=a' bO.o;refine iQ (v:= .agg #[UZ D,t.g5,.slice ma t.marks.length mc,.slice av t.outs.length c1,.slice a2 t.outs.length c2,t.iK,t.wd,t.jn,t.acc,bd]) (by simp [results,results88,go_sem,cd]) rfl ?_;have cM:w.heap.size+1<C:=Nat.lt_trans ah.o.lay ah.o.qC;refine⟨av,a2,c1,c2,by rw [a6.o],⟨U.o.g5,U.o.iK,U.o.wd,U.o.jn,U.o.acc,by have:=nX 13 (mg (encS t []));exact ir this.1 (by show iD 13 (mg (encS t []))<_;omega),?_,?_,?_⟩,?_⟩
    ·exact gZ.mono (gZ.keep U.o.marks (aA.o.mono λk _ h=>by have ar:k<w.heap.size:=h;omega)) λ_ _ _=>trivial
    ·exact gZ.mono (gZ.keep V.o (aA.o.mono λk _ h=>by have ar:C<=k:=h;omega)) λ_ _ _=>trivial
    ·have h2:=gZ.mono (gZ.keep bR.o (aA.o.mono λk _ h=>by have ar:C<=k:=h;omega)) (S':=λ_=>True) λ_ _ _=>trivial
     rw [<-bh.o]at h2;exact h2
    ·exact Kept.behind ah.o.AP.1 aA.o ah.o.AP.1.size λk aj=>by omega
theorem y8 (S:UO)(w:World)(t:jO)(ma j pa:UP)(mc oc pc:Nat)(h:ks S w t ma j pa mc oc pc)(y:hF t=0)(D:Nat)(u:D<=12):
 Calls prog 88 #[.agg (jQ t ma mc j oc pa pc),UZ D] w (IA D t ma mc w):=zw w t ma j pa mc oc pc h.bound y D u
structure ul (w:World)(p q:Nat)(n:jZ)(r:iY)(wr:World):Prop where
 kept:Kept (λk=>k≠p) w wr
 rd:qa p wr r
 res:wr.heap[w.heap.size]? =some (.cells #[U0,U0,U0,U0] 260 (0,0))
 box:wr.heap[q]? =some (.cells #[n.value,n.owner,n.jr,n.blind] 260 (0,0))
 wq:w.heap.size<q
 pw:p<w.heap.size
theorem ul.next {w wr w2:World}{p q:Nat}{n:jZ}{r j:iY}(h:ul w p q n r wr)(k:p' p wr j w2):ul w p q n j w2:=
 have:=h.wq;have:=h.pw
 ⟨lu h.kept k.2,k.1,hE k.2 h.res UN,hE k.2 h.box UN,h.wq,h.pw⟩
theorem ul.store {w wr:World}{p q:Nat}{n n':jZ}{r:iY}(h:ul w p q n r wr)(i:Nat)(v:Value)(u:(#[n.value,n.owner,n.jr,n.blind]:Array Value).setIfInBounds i v= #[U2 n'.value,U2 n'.owner,U2 n'.jr,U2 n'.blind]):ul w p q n' r (wr.setCell ⟨q,i,none⟩ v):=
 have:=h.wq;have:=h.pw
 ⟨h.kept.setCell (λj=>by have y:q<w.heap.size:=j;omega) _,h.rd.kept ((Kept.refl _ _).setCell (λ_ h=>by have j:q<=p:=h;omega) _),hB h.res (show w.heap.size≠q by omega),u▸h6 h.box,h.wq,h.pw⟩
theorem vA (w:World)(p:Nat)(r:iY)(h:qa p w r):Calls prog 190 #[.pointer (some ⟨p,0,none⟩)] w
 λe w'=>e= .returned (.agg #[r.note.value,r.note.owner,r.note.jr,r.note.blind])/\p' p w r.n4 w'/\nU r.note:=by
 have hlt:=h.lt;have V:=jc w (.cells #[U0,U0,U0,U0] 260);obtain⟨ak,ag,ah⟩:=kT (gY w (.cells #[U0,U0,U0,U0] 260)) (h.keep V) V;have ar:(w.alloc (.cells #[U0,U0,U0,U0] 260)).heap.size=w.heap.size+1:=U4 ..;have ai:=Hd ar;clear V h ar;go_in;go_wp2_with fail;refine(ms _ p r ag.o 18446744073709551615 UN).mono ?_;rintro e w1⟨rfl,y,ao,aH⟩;obtain⟨v0,ab⟩:=iF ((r.uint 18446744073709551615).1);have aD:=Hd ab;rw [ab]at ao aH⊢;have ay:=y.2.size;rw [ai.o]at ay;have Y:=jc w1 (.cells #[v0,U0,U0,U0] 260)
 have R1:Hi (ul w p w1.heap.size ⟨v0,0,0,0⟩ r.n1 (w1.alloc (.cells #[v0,U0,U0,U0] 260))):=
  ⟨lu (Kept.of_below ah.o) (lu y.2 (Kept.of_below Y)),y.1.keep Y,iq (hE y.2 ak.o UN),gY _ _,UN,hlt⟩
 clear Y ay y ab ag ak ah ai;go_wp2_with fail;generalize w1.alloc (.cells #[v0,U0,U0,U0] 260)=aJ at*;generalize w1.heap.size=q at*
 refine(ms aJ p r.n1 R1.o.rd 18446744073709551615 UN).mono ?_;rintro e w2⟨rfl,au,ap,aI⟩;have G:=ul.next R1.o au;obtain⟨v1,ad⟩:=iF ((r.n1.uint 18446744073709551615).1);have aE:=Hd ad;rw [ad]at ap aI⊢;obtain⟨aP,aQ⟩:=a' G.box;have R2:=Hd (ul.store (n':=⟨v0,v1,0,0⟩) G 1 (U2 v1) rfl);clear G ad au;go_wp2_with fail;generalize w2.setCell ⟨q,1,none⟩ (U2 v1)=aK at*;clear aP aQ;refine(ms aK p r.n2 R2.o.rd 18446744073709551615 UN).mono ?_;rintro e aL⟨rfl,av,a2,b2⟩;have K:=ul.next R2.o av;obtain⟨v2,ae⟩:=iF ((r.n2.uint 18446744073709551615).1);have aF:=Hd ae;rw [ae]at a2 b2⊢;obtain⟨x2,aT⟩:=a' K.box;have R3:=Hd (ul.store (n':=⟨v0,v1,v2,0⟩) K 2 (U2 v2) rfl);clear K ae av;go_wp2_with fail;generalize aL.setCell ⟨q,2,none⟩ (U2 v2)=aM at*;clear x2 aT;refine(ms aM p r.n3 R3.o.rd 18446744073709551615 UN).mono ?_;rintro e aN⟨rfl,aw,aq,b3⟩;have U:=ul.next R3.o aw;obtain⟨u,af⟩:=iF ((r.n3.uint 18446744073709551615).1);have aG:=Hd af;rw [af]at aq b3⊢;obtain⟨aV,aW⟩:=a' U.box;have al:=Hd (ul.store (n':=⟨v0,v1,v2,u⟩) U 3 (U2 u) rfl);clear U af aw;have R5:=Hd (show ul w p q ⟨v0,v1,v2,u⟩ r.n4 (aN.setCell ⟨q,3,none⟩ (U2 u))from al.o);obtain⟨aX,aY⟩:=a' R5.o.box;obtain⟨u0,u1⟩:=a' R5.o.res;have ax:=h6 (i:=3) (v:= U2 u) (h6 (i:=2) (v:= U2 v2) (h6 (i:=1) (v:= U2 v1) (h6 (i:=0) (v:= U2 v0) R5.o.res)));obtain⟨z, -⟩:=a' ax;have k0:=z 0;have k1:=z 1;have az:=z 2;have aA:=z 3;simp at k0 k1 az aA;clear z ax;have aj:Hi (r.note=⟨v0,v1,v2,u⟩):=by
  show(⟨(r.uint 18446744073709551615).1,(r.n1.uint 18446744073709551615).1,(r.n2.uint 18446744073709551615).1,(r.n3.uint 18446744073709551615).1⟩:jZ)=_;rw [aD.o,aE.o,aF.o,aG.o]
 have aC:Hi (nU ⟨v0,v1,v2,u⟩):=⟨ir ao (by show v0<_;omega),ir ap (by show v1<_;omega),ir a2 (by show v2<_;omega),ir aq (by show u<_;omega)⟩;clear R1 R2 R3 al;go_wp2_with fail;refine iQ (v:= .agg #[v0,v1,v2,u]) (by simp [results,results190,go_sem,k0,k1,az,aA]) rfl ⟨by rw [aj.o],⟨?_,?_⟩,by rw [aj.o];exact aC.o⟩
 ·have j: ∀aO:World,w.heap.size<aO.heap.size-> ¬(λk=>k<=p) w.heap.size:=λ_ _ h=>by have aU:w.heap.size<=p:=h;omega
  exact R5.o.rd.kept (((((Kept.refl _ _).setCell (j _) _).setCell (j _) _).setCell (j _) _).setCell (j _) _)
 ·have j:w.heap.size<w.heap.size-> ¬(λk=>k≠p) w.heap.size:=λh=>absurd h (pK _)
  exact(((R5.o.kept.setCell j _).setCell j _).setCell j _).setCell j _
theorem EH (x:iR)(h:x.path.length<=12):kG x=(decide (x.path.length<=12/\0<=x.hO/\x.hO<4096)&&mP x.path.length ⟨x.note,x.key,x.number,0,x.path,x.nE⟩):=by
 have j:=pL ⟨x.path.length,UN⟩;simp only at j;rw [Ga _ _ j.2.2 h];unfold kG;have u:decide ((0:Int)<=0)=true:=rfl;have y:decide ((0:Int)<2^x.path.length)=true:=iP j.2.1;simp only [u,y,decide_true,Bool.true_and,Bool.and_true];rw [oK];simp only [kg,jk];constructor
 ·rintro⟨a,b,c,d,e⟩;exact⟨a,b,c,d.1,d.2,e⟩
 ·rintro⟨a,b,c,d,e,f⟩;exact⟨a,b,c,⟨d,e⟩,f⟩
theorem Dp (S:UO)(w:World)(i:iR)(j:qk i)(pa:UP)(pc:Nat)(y:gZ.rel S w [.slice pa i.path.length pc] i.path)(u:i.path.length<=12):
 Calls prog 273 #[.agg #[i.note.value,i.note.owner,i.note.jr,i.note.blind,i.key,UZ i.number,I0,.slice pa i.path.length pc,i.nE],i.path.length] w (Rt w (.bool (mP i.path.length ⟨i.note,i.key,i.number,0,i.path,i.nE⟩))):=
 yz S w ⟨i.note,i.key,i.number,0,i.path,i.nE⟩ ⟨j.note,j.key,j.number,nw (by show(-9223372036854775808:Int)<=0;omega) (by show(0:Int)<9223372036854775808;omega)⟩ pa pc y i.path.length u
theorem rA (S:UO)(w:World)(t:po)(ia oa:UP)(ic oc:Nat)(h:p9 S w t ia oa ic oc):
 Calls prog 193 #[.agg #[.slice ia t.ins.length ic,.slice oa t.outs.length oc,t.hU]] w (Rt w (.bool (lw t))):=by
 have aA:=(g4.lens h.ins).2;have aC:=(g4.lens h.outs).2;unfold maxLen at aA aC;have y:Hi (lw t=(decide (t.ins.length<=4/\t.outs.length<=4)&&(jC t.hU&&(t.ins.all kG&&t.outs.all ja)))):=rfl;have ab:=(jc w (.cells #[.slice ia t.ins.length ic,.slice oa t.outs.length oc,t.hU] 197));obtain⟨av,u,H⟩:=kT (gY w (.cells #[.slice ia t.ins.length ic,.slice oa t.outs.length oc,t.hU] 197)) ab (h.c' ab);clear h ab;by_cases l1:t.ins.length<=4
 ·have aG:(t.ins.length:Int)<=4:=by omega
  by_cases l2:t.outs.length<=4
  ·have aH:(t.outs.length:Int)<=4:=UN
   have K:=Hd (iP (⟨l1,l2⟩:t.ins.length<=4/\t.outs.length<=4));go_in;go_wp2_with fail;generalize w.alloc (.cells #[.slice ia t.ins.length ic,.slice oa t.outs.length oc,t.hU] 197)=W at*
   refine UR (nZ W t.hU) λw1 hb1=> ?_
   cases ae:jC t.hU with
   |false=>
    have j:Hi (lw t=false):=Hd (by rw [y.o];simp only [ae,kH,ll]);go_wp2;go_ret;exact⟨g8 j.o.symm,d' u.o hb1⟩
   |true=>
    have ay:=Hd ae;clear ae;go_wp2;go_loopw [3] (λaf wr=> ∃k:Nat,k<=t.ins.length/\af= UZ k/\Hi ((t.ins.take k).all kG=true)/\BW W wr) (λaf _=>t.ins.length-(intOf af).toNat)
    case atStart=>exact⟨0,iy _,rfl,rfl,hb1⟩
    case round=>
     obtain⟨k,aP,rfl,aj,z⟩:=hrel;obtain⟨aV,aW⟩:=a' (b' z av.o);by_cases hlt:k<t.ins.length
     ·obtain⟨b,off,pa,pc,rfl,aO,ar,ad,c0,c1,c2,aI,aJ,aK,aL,aM,aN⟩:=ow (h8.c' H.o.ins z) k hlt
      obtain⟨aq,aF⟩:=ik (all_false kG t.ins k hlt) (jW kG t.ins k hlt);have aQ:(0:Int)<=(k:Int):=UN;have aT:(k:Int)<(t.ins.length:Int):=UN;generalize t.ins[k]=i at*;obtain⟨aw,ax⟩:=ik ar ad;have aE:=(g4.lens ad).2;unfold maxLen at aE;have ak:=jc wr (.cells (tx i pa pc) 265);have ao:=jc wr (.cells #[i.note.value,i.note.owner,i.note.jr,i.note.blind,i.key,UZ i.number,I0,.slice pa i.path.length pc,i.nE] 265);have U:=Hd (d' u.o (d' z ak));clear ad ak ar;by_cases G:i.path.length<=12/\0<=i.hO/\i.hO<4096
      ·obtain⟨d1,Y,ai⟩:=G
       have ah:(i.path.length:Int)<=12:=UN;have ag:Hi (kG i=mP i.path.length ⟨i.note,i.key,i.number,0,i.path,i.nE⟩):=Hd (by rw [EH i d1,iP (⟨d1,Y,ai⟩:i.path.length<=12/\0<=i.hO/\i.hO<4096),Bool.true_and]);go_wp2_with fail;refine UR (Dp S (wr.alloc (.cells #[i.note.value,i.note.owner,i.note.jr,i.note.blind,i.key,UZ i.number,I0,.slice pa i.path.length pc,i.nE] 265)) i aw.o pa pc (gZ.c' ax.o ao) d1) λw2 hb2=> ?_;have al:=d' z (d' ao hb2);rw [<-ag.o];clear ag
       cases au:kG i with
       |true=>
        have az:Hi ((t.ins.take (k+1)).all kG=true):=Hd (by rw [aF.o,aj.o,au];rfl);go_wp2;go_roundw
        case rel=>exact⟨k+1,UN,by go_num,az,al⟩
        case measure=>exact UY
       |false=>
        have V:=Hd (aq.o au);have j:Hi (lw t=false):=Hd (by rw [y.o];simp only [V.o,kH,ll]);go_wp2;go_ret;exact⟨g8 j.o.symm,d' u.o al⟩
      ·have V:=Hd (aq.o (by unfold kG;rw [iH G,kH]))
       have j:Hi (lw t=false):=Hd (by rw [y.o];simp only [V.o,kH,ll]);by_cases d1:i.path.length<=12
       ·have ah:(i.path.length:Int)<=12:=by omega
        by_cases Y:0<=i.hO
        ·have ai: ¬i.hO<4096:=λh=>G ⟨d1,Y,h⟩
         clear G;go_wp2;go_ret;exact⟨g8 j.o.symm,U.o⟩
        ·clear G
         go_wp2;go_ret;exact⟨g8 j.o.symm,U.o⟩
       ·have ah: ¬(i.path.length:Int)<=12:=UN
        clear G;go_wp2;go_ret;exact⟨g8 j.o.symm,U.o⟩
     ·obtain rfl:k=t.ins.length:=UN
      have ap:t.ins.all kG=true:=(by have:=aj.o;rw [Sw]at this;exact this);have j:Hi (lw t=t.outs.all ja):=Hd (by rw [y.o,K.o,ay.o,ap];rfl);clear ap;go_wp2_with fail;refine UR (yx S wr oa oc t.outs (i6.c' H.o.outs z)) λaU aD=> ?_;go_wp2;go_ret;exact⟨g8 j.o.symm,d' u.o (d' z aD)⟩
  ·have aH: ¬(t.outs.length:Int)<=4:=UN
   have K:=Hd (iH (λh=>l2 h.2: ¬(t.ins.length<=4/\t.outs.length<=4)));have j:Hi (lw t=false):=Hd (by rw [y.o];simp only [K.o,kH]);go_wp2;go_ret;exact⟨g8 j.o.symm,u.o⟩
 ·have aG: ¬(t.ins.length:Int)<=4:=UN
  have K:=Hd (iH (λh=>l1 h.1: ¬(t.ins.length<=4/\t.outs.length<=4)));have j:Hi (lw t=false):=Hd (by rw [y.o];simp only [K.o,kH]);go_wp2;go_ret;exact⟨g8 j.o.symm,u.o⟩
def lB (bs:List Int)(w:World)(e:Ending)(w':World):Prop:=
 match iS bs with
 |none=>e= .returned (.tuple #[.agg #[S0,S0,U0],false])/\BW w w'
 |some t=> ∃j c1 a2 c2,e= .returned (.tuple #[.agg #[.slice j t.ins.length c1,.slice a2 t.outs.length c2,t.hU],true])/\
  h8.rel (λ_=>True) w' [.slice j t.ins.length c1] t.ins/\i6.rel (λ_=>True) w' [.slice a2 t.outs.length c2] t.outs/\iZ t.hU/\BW w w'
structure mR (w:World)(p q B:Nat)(v1 v2:Value)(sec:Int)(rd:iY)(wr:World):Prop where
 below:BW w wr
 rd:qa p wr rd
 box:wr.heap[q]? =some (.cells #[v1,v2,sec] 197 (0,0))
 res:wr.heap[w.heap.size]? =some (.cells #[S0,S0,U0] 197 (0,0))
 base:B<=wr.heap.size
theorem mR.kept {w wr w2:World}{p q B:Nat}{v1 v2:Value}{sec:Int}{rd:iY}(L:nV w p q B)(h:mR w p q B v1 v2 sec rd wr)(j:Kept (λk=>k<B) wr w2):mR w p q B v1 v2 sec rd w2:=
 have:=L.wp;have:=L.wq;have:=L.pB;have:=L.qB
 ⟨Kept.behind h.below (j.mono (S':=λk=>k<B) λ_ _ h=>h) h.below.size (λk j=>UN),h.rd.kept (j.mono λk _ h=>UN),hE j h.box L.qB,hE j h.res UN,iu h.base j.size⟩
theorem mR.c' {w wr w2:World}{p q B:Nat}{v1 v2:Value}{sec:Int}{rd:iY}(L:nV w p q B)(h:mR w p q B v1 v2 sec rd wr)(j:BW wr w2):mR w p q B v1 v2 sec rd w2:=h.kept L (Kept.of_below j)
theorem mR.read {w wr w2:World}{p q B:Nat}{v1 v2:Value}{sec:Int}{rd j:iY}(L:nV w p q B)(h:mR w p q B v1 v2 sec rd wr)(hr:p' p wr j w2):mR w p q B v1 v2 sec j w2:=
 have:=L.wp;have:=L.wq;have:=L.pB;have:=L.qB;have:=L.pq
 ⟨Kept.behind h.below hr.2 h.below.size (λk u=>UN),hr.1,hE hr.2 h.box UN,hE hr.2 h.res UN,iu h.base hr.2.size⟩
theorem mR.store {w wr:World}{p q B:Nat}{v1 v2 u1 u2:Value}{sec zh:Int}{rd:iY}(L:nV w p q B)(h:mR w p q B v1 v2 sec rd wr)(i:Nat)(v:Value)(u:(#[v1,v2,sec]:Array Value).setIfInBounds i v= #[u1,u2,U2 zh]):mR w p q B u1 u2 zh rd (wr.setCell ⟨q,i,none⟩ v):=
 have:=L.wp;have:=L.wq;have:=L.pB;have:=L.qB;have:=L.pq;have j:Kept (λk=>k<=p) wr (wr.setCell ⟨q,i,none⟩ v):=(Kept.refl _ _).setCell (λ_ h=>by have y:q<=p:=h;omega) _
 ⟨h.below.setCell (by show w.heap.size<=q;omega) _,h.rd.kept j,u▸h6 h.box,hB h.res (show w.heap.size≠q by omega),by rw [Ub];exact h.base⟩
theorem mR.drew {w wr:World}{p q B:Nat}{v1 v2:Value}{sec:Int}{rd:iY}(L:nV w p q B)(h:mR w p q B v1 v2 sec rd wr):mR w p q B v1 v2 sec rd wr.drew:=h.c' L (g' _ _).drew
theorem mL.FD {B p:Nat}{w w2:World}{v:Value}{l:List iR}{rd:iY}(h:mL B w v l)(j:p<B)(hr:p' p w rd w2):mL B w2 v l:=h.keep (hr.2.mono λk _ h=>by rcases h with h|h;exact h.elim;omega)
theorem mM.FD {B p:Nat}{w w2:World}{v:Value}{l:List jZ}{rd:iY}(h:mM B w v l)(j:p<B)(hr:p' p w rd w2):mM B w2 v l:=h.keep (hr.2.mono λk _ h=>by rcases h with h|h;exact h.elim;omega)
structure sj (w:World)(p q B x:Nat)(v:Value)(ins:List iR)(rd:iY)(cs:Array Value)(wr:World):Prop where
 dc:mR w p q B v S0 0 rd wr
 own:Own mH B 265 (λk=>(False\/B<=k)/\k<x) wr v ins
 box:wr.heap[x]? =some (.cells cs 265 (0,0))
 xB:B<=x
theorem sj.read {w wr w2:World}{p q B x:Nat}{v:Value}{ins:List iR}{rd j:iY}{cs:Array Value}(L:nV w p q B)(h:sj w p q B x v ins rd cs wr)(hr:p' p wr j w2):sj w p q B x v ins j cs w2:=
 have:=L.pB;have:=h.xB
 ⟨h.dc.read L hr,h.own.keep (hr.2.mono λk _ h=>by rcases h.1 with h1|h1;exact h1.elim;omega),hE hr.2 h.box UN,h.xB⟩
theorem sj.store {w wr:World}{p q B x:Nat}{v:Value}{ins:List iR}{rd:iY}{cs cs':Array Value}(L:nV w p q B)(h:sj w p q B x v ins rd cs wr)(i:Nat)(u:Value)(y:cs.setIfInBounds i u=cs'):sj w p q B x v ins rd cs' (wr.setCell ⟨x,i,none⟩ u):=
 have:=L.pB;have:=h.xB
 ⟨h.dc.kept L ((Kept.refl _ _).setCell (λ_ h=>by have j:x<B:=h;omega) _),h.own.keep ((Kept.refl _ _).setCell (λ_ h=>by have j:x<x:=h.2;omega) _),y▸h6 h.box,h.xB⟩
theorem Du (w:World)(a:UP)(cap:Nat)(bs:List Int)(S:UO)(h:hD.rel S w [.slice a bs.length cap] bs)(dn:bs.length<=1000000):
 Calls prog 131 #[.slice a bs.length cap] w (lB bs w):=by
 obtain⟨cQ,cP,cO⟩:=lb w (.cells #[S0,S0,U0] 197) (.cells #[.slice a bs.length cap,false] 282) (.cells #[S0,S0,U0] 197);have hb3:=hd (hd (jc w (.cells #[S0,S0,U0] 197)) (.cells #[.slice a bs.length cap,false] 282)) (.cells #[S0,S0,U0] 197);have cM:(((w.alloc (.cells #[S0,S0,U0] 197)).alloc (.cells #[.slice a bs.length cap,false] 282)).alloc (.cells #[S0,S0,U0] 197)).heap.size=w.heap.size+3:=by rw [U4,U4,U4]
 have cK:nV w (w.heap.size+1) (w.heap.size+2) (w.heap.size+3):=⟨UN,UN,UN,UN,UN⟩
 have ae:mR w (w.heap.size+1) (w.heap.size+2) (w.heap.size+3) S0 S0 0 ⟨bs,false⟩ (((w.alloc (.cells #[S0,S0,U0] 197)).alloc (.cells #[.slice a bs.length cap,false] 282)).alloc (.cells #[S0,S0,U0] 197)):=
  ⟨hb3,⟨a,cap,cP,hD.mono (hD.c' (hD.bound h) hb3) λk _ aN=>by have:=aN.2;omega,dn⟩,cQ,cO,by rw [cM];exact g9 _⟩
 obtain⟨bR,G⟩:=ik ae cK;clear cO cP cQ hb3 cM cK ae h;go_in;go_wp2_with fail;generalize ((w.alloc (.cells #[S0,S0,U0] 197)).alloc (.cells #[.slice a bs.length cap,false] 282)).alloc (.cells #[S0,S0,U0] 197)=W at bR⊢;generalize db:w.heap.size+3=B at*;generalize dm:w.heap.size+2=q at*;generalize dl:w.heap.size+1=p at*;clear db dm dl;refine(ox W p _ bR.o.rd 4 UN).mono ?_;rintro e w2⟨rfl,h2,cN,n1⟩;have bS:=Hd (bR.o.read G.o h2);obtain⟨N,ck⟩:=lv cN;have bT:=Hd ck;rw [ck]at n1⊢;clear ck cN h2 bR;obtain⟨r1,cA⟩:=iF ((iY.int ⟨bs,false⟩ 4).2);have bU:=Hd cA;rw [cA]at bS;clear cA;have dF:N<=4:=UN
 go_wp2;go_loopw [7] (λaW wr=> ∃(k:Nat) (rd:iY) (v:Value) (ins:List iR),k<=N/\aW= UZ k/\ins.length=k/\mR w p q B v S0 0 rd wr/\mL B wr v ins/\Hi (iY.jE (N-k) rd ins=iY.jE N r1 [])) (λaW _=>N-(intOf aW).toNat)
 case atStart=>exact⟨0,r1,S0,[],iy _,rfl,rfl,bS.o,Own.nil _ _ _ _ _,rfl⟩
 case round=>
  obtain⟨k,rd,v,ins,aN,rfl,bP,ae,ag,ak⟩:=hrel;obtain⟨ra,rc,q1, -, -⟩:=ae.rd;obtain⟨f0,f1⟩:=a' q1;clear q1;by_cases dG:k<N
  ·cases aI:rd.fail with
   |false=>
    rw [aI]at f0;have a6:(k:Int)<(N:Int):=UN;obtain⟨j,aJ⟩: ∃j,N-k=j+1:=⟨N-k-1,UN⟩;have bH:Hi (N-(k+1)=j):=Hd UN;rw [aJ]at ak;clear aJ;have bD:Hi (iY.jE j rd.s5 (ins++ [rd.lR])=iY.jE N r1 []):=by
     show _=_;rw [<-ak.o];show _=if rd.fail=true then (ins,rd)else iY.jE j rd.s5 (ins++ [rd.lR]);rw [g3 (by rw [aI];simp)]
    obtain⟨aZ,HOr⟩:=ik ae ag;clear ak ae ag;go_wp2_with fail;clear f0 f1;refine(vA wr p rd aZ.o.rd).mono ?_;rintro e w2⟨rfl,az,bw⟩;have cn:=aZ.o.read G.o az;have cL:=mL.FD HOr.o G.o.pB az;obtain⟨n,aw⟩:=iF (rd.note);have cU:=Hd aw;rw [aw]at bw⊢;have cW:=Hd bw;have cl:=jc w2 (.cells #[n.value,n.owner,n.jr,n.blind,U0,I0,I0,S0,false] 265)
    have b0:Hi (sj w p q B w2.heap.size v ins rd.n4 #[n.value,n.owner,n.jr,n.blind,U0,I0,I0,S0,false] (w2.alloc (.cells #[n.value,n.owner,n.jr,n.blind,U0,I0,I0,S0,false] 265))):=
     ⟨cn.c' G.o cl,(Own.bound cL).c' cl,gY _ _,cn.base⟩
    clear cn cL cl az aw bw aZ HOr;go_wp2_with fail;generalize w2.alloc (.cells #[n.value,n.owner,n.jr,n.blind,U0,I0,I0,S0,false] 265)=dp at*;generalize w2.heap.size=x at*
    refine(ms dp p rd.n4 b0.o.dc.rd 18446744073709551615 UN).mono ?_;rintro e bx⟨rfl,az,U,c9⟩;have b6:=sj.read G.o b0.o az;obtain⟨key,cu⟩:=iF ((rd.n4.uint 18446744073709551615).1);have c3:=Hd cu;rw [cu]at U c9⊢;obtain⟨cC,cD⟩:=a' b6.box;have b1:=Hd (sj.store G.o b6 4 (U2 key) (cs':= #[U2 n.value,U2 n.owner,U2 n.jr,U2 n.blind,U2 key,I0,I0,S0,.bool false]) rfl);clear b6 cu az b0;go_wp2_with fail;generalize bx.setCell ⟨x,4,none⟩ ((U2 key))=dq at*;clear cC cD;refine(ox dq p rd.s1 b1.o.dc.rd 4294967296 UN).mono ?_;rintro e aX⟨rfl,cH,a2,b2⟩;have b7:=sj.read G.o b1.o cH;obtain⟨num,cv⟩:=iF ((rd.s1.int 4294967296).1);have c4:=Hd cv;rw [cv]at a2 b2⊢;obtain⟨x2,dy⟩:=a' b7.box;have b4:=Hd (sj.store G.o b7 5 (UZ num) (cs':= #[U2 n.value,U2 n.owner,U2 n.jr,U2 n.blind,U2 key,UZ num,I0,S0,.bool false]) rfl);clear b7 cv cH b1;go_wp2_with fail;generalize aX.setCell ⟨x,5,none⟩ ((UZ num))=dr at*;clear x2 dy;refine(ox dr p rd.s2 b4.o.dc.rd 4294967296 UN).mono ?_;rintro e ay⟨rfl,cI,c7,b3⟩;have b8:=sj.read G.o b4.o cI;obtain⟨pos,cz⟩:=iF ((rd.s2.int 4294967296).1);have c5:=Hd cz;rw [cz]at c7 b3⊢;obtain⟨du,dz⟩:=a' b8.box;have bz:=Hd (sj.store G.o b8 6 (UZ pos) (cs':= #[U2 n.value,U2 n.owner,U2 n.jr,U2 n.blind,U2 key,UZ num,UZ pos,S0,.bool false]) rfl);clear b8 cz cI b4;go_wp2_with fail;generalize ay.setCell ⟨x,6,none⟩ ((UZ pos))=a7 at*;clear du dz;refine(EJ a7 p rd.s3 bz.o.dc.rd 12 UN UN).mono ?_;rintro e cB⟨pa,pc,rfl,cw,cJ⟩;have b9:=sj.read G.o bz.o cJ;obtain⟨path,cy⟩:=iF ((rd.s3.list 12 18446744069414584321).1);have cY:=Hd cy;rw [cy]at cw⊢;obtain⟨dv,dA⟩:=a' b9.box;have dH:x<a7.heap.size:=ii bz.o.box;have dd:B<=a7.heap.size:=bz.o.dc.base;have cV:=Hd (λb (bO:v.ownBlock=some b)=>(bz.o.own.lt bO).1);have b5:=Hd (sj.store G.o b9 7 (.slice pa path.length pc) (cs':= #[U2 n.value,U2 n.owner,U2 n.jr,U2 n.blind,U2 key,UZ num,UZ pos,.slice pa path.length pc,.bool false]) rfl);have bQ:Kept (λb=>a7.heap.size<=b) cB (cB.setCell ⟨x,7,none⟩ (.slice pa path.length pc)):=(Kept.refl _ _).setCell (λ_ h=>by have bm:a7.heap.size<=x:=h;omega) _;have cF:=Hd (gZ.keep cw bQ);clear b9 cy cJ bz bQ cw;go_wp2_with fail;generalize cB.setCell ⟨x,7,none⟩ (.slice pa path.length pc)=ds at*;clear dv dA;refine(ox ds p rd.s4 b5.o.dc.rd 1 UN).mono ?_;rintro e ah⟨rfl,cd,c8,da⟩;have bV:=sj.read G.o b5.o cd;obtain⟨ao,co⟩:=iF ((rd.s4.int 1).1);have cR:=Hd co;rw [co]at c8 da⊢;obtain⟨dw,dB⟩:=a' bV.box;obtain⟨dD,dE⟩:=a' bV.dc.box;have bM:=Hd (sj.store G.o bV 8 (.bool (ao==1)) (cs':= #[U2 n.value,U2 n.owner,U2 n.jr,U2 n.blind,U2 key,UZ num,UZ pos,.slice pa path.length pc,.bool (ao==1)]) rfl);have bQ:Kept (λb=>a7.heap.size<=b) ah (ah.setCell ⟨x,8,none⟩ (.bool (ao==1))):=(Kept.refl _ _).setCell (λ_ h=>by have bm:a7.heap.size<=x:=h;omega) _;have cG:=Hd (gZ.keep (gZ.keep cF.o (cd.2.mono λb _ h=>by have:=G.o.pB;omega)) bQ);have cZ:Hi (rd.lR=⟨n,key,num,pos,path,ao==1⟩):=by
     show(⟨rd.note,(rd.n4.uint 18446744073709551615).1,(rd.s1.int 4294967296).1,(rd.s2.int 4294967296).1,(rd.s3.list 12 18446744069414584321).1,(rd.s4.int 1).1==1⟩:iR)=_;rw [cU.o,c3.o,c4.o,c5.o,cY.o,cR.o]
    have c6:Hi (mH.rel (λb=>a7.heap.size<=b) (ah.setCell ⟨x,8,none⟩ (.bool (ao==1))) [n.value,n.owner,n.jr,n.blind,key,UZ num,UZ pos,.slice pa path.length pc,(ao==1)] ⟨n,key,num,pos,path,ao==1⟩):=
     mH.mk (s:=⟨n,key,num,pos,path,ao==1⟩) ⟨cW.o,ir U (by show key<_;omega),nw (by show _<=num;omega) (by show num<_;omega),nw (by show _<=pos;omega) (by show pos<_;omega)⟩ cG.o
    clear bV co cd b5 bQ cF cG;obtain⟨a0,a1⟩:=a' bM.o.dc.box;obtain⟨d0,d1⟩:=a' bM.o.box;have cS:Hi (B<=(ah.setCell ⟨x,8,none⟩ (.bool (ao==1))).heap.size):=bM.o.dc.base;have cX:Hi (mL B (ah.setCell ⟨x,8,none⟩ (.bool (ao==1))) v ins):=bM.o.own.mono λb _ h=>h.1;have cE:Hi (ins.length+1<=maxLen/\(ins.length+1)*88<=140737488355328):=(by unfold maxLen;constructor<;>omega);go_wp2_with (at_builtin;go_loud (refine km (r:=mH) (wr:=ah.setCell ⟨x,8,none⟩ (.bool (ao==1))) (es:= [U2 n.value,U2 n.owner,U2 n.jr,U2 n.blind,U2 key,UZ num,UZ pos,.slice pa path.length pc,.bool (ao==1)]) (v:=v) (w0:=ah.setCell ⟨x,8,none⟩ (.bool (ao==1))) (B:=B) rfl _ _ rfl C4 rfl (by rw [Ub];rfl) (g' _ _) cS.o cX.o c6.o (λb bO=>⟨.inr (iu dd bO),λdj=>by have:=cV.o b dj;omega⟩) cE.o.1 cE.o.2 ?_))
    intro v2 aH a4 bA;obtain⟨a2,aq,rfl, -, -⟩:=g4.form a4.slice;have bB:Kept (λb=>b<B) (ah.setCell ⟨x,8,none⟩ (.bool (ao==1))) aH:=⟨bA.os,bA.tape,bA.output,bA.size,λb _ bO=>bA.block b bO⟩;have a5:=Hd (mR.kept G.o bM.o.dc bB);have bK:=Hd (show mL B aH (.slice a2 (ins++ [(⟨n,key,num,pos,path,ao==1⟩:iR)]).length aq) (ins++ [(⟨n,key,num,pos,path,ao==1⟩:iR)])from Own.mono a4 (F':=λb=>False\/B<=b) λb _ h=>by first|exact h|exact .inr h)
    obtain⟨aK,aL⟩:=a' a5.o.box;have bC:Hi (mR w p q B (.slice a2 (ins++ [(⟨n,key,num,pos,path,ao==1⟩:iR)]).length aq) S0 0 rd.s5 (aH.setCell ⟨q,0,none⟩ (.slice a2 (ins++ [(⟨n,key,num,pos,path,ao==1⟩:iR)]).length aq))):=mR.store G.o a5.o 0 (.slice a2 (ins++ [(⟨n,key,num,pos,path,ao==1⟩:iR)]).length aq) rfl;have bL:=Hd (mL.store bK.o G.o.qB 0 (.slice a2 (ins++ [(⟨n,key,num,pos,path,ao==1⟩:iR)]).length aq));clear a4 bA bB dw dB dD dE a0 a1 d0 d1;go_wp2;go_roundw
    case rel=>exact⟨k+1,rd.s5,.slice a2 (ins++ [(⟨n,key,num,pos,path,ao==1⟩:iR)]).length aq,ins++ [(⟨n,key,num,pos,path,ao==1⟩:iR)],UN,by go_num,by rw [U3,bP];rfl,by simpa [bP]using bC.o,by simpa [bP]using bL.o,by rw [bH.o,<-cZ.o];exact bD⟩
    case measure=>exact UY
   |true=>
    rw [aI]at f0;have a6:(k:Int)<(N:Int):=UN;have bE:Hi (iY.jE N r1 []=(ins,rd)):=by
     show _=_;rw [<-ak.o];obtain⟨j,aJ⟩: ∃j,N-k=j+1:=⟨N-k-1,UN⟩;rw [aJ];unfold iY.jE;rw [g7 aI]
    clear ak bP;have ap:=ae.base;have bF:=Hd (h8.bound ag.slice);obtain⟨U,c1,rfl, -, -⟩:=g4.form ag.slice;obtain⟨C,bn⟩:=iF (wr.heap.size);rw [bn]at ap;have bG:Hi (h8.rel (λx=>B<=x/\x<C) wr [.slice U ins.length c1] ins):=h8.mono bF.o λx _ h=>⟨h.1.resolve_left id,by rw [<-bn];exact h.2⟩;have ar:=Hd ae;have cj:C<=wr.heap.size:=UN;clear ae ag bF bn bS;go_wp2_with fail;clear f0 f1;refine(ox wr p rd ar.o.rd 4 UN).mono ?_;rintro e bx⟨rfl,a3,n2,n3⟩;have aY:=Hd (ar.o.read G.o a3);have bb:Hi (h8.rel (λx=>B<=x/\x<C) bx [.slice U ins.length c1] ins):=h8.keep bG.o (a3.2.mono λx _ h=>oi (jg G.o.pB h.1));have ce:C<=bx.heap.size:=iu cj a3.2.size;obtain⟨K,bo⟩:=lv n2;have bI:=Hd bo;rw [bo]at n3⊢;clear bo n2 a3 ar bG;obtain⟨r2,bq⟩:=iF ((rd.int 4).2);have HR2:=Hd bq;rw [bq]at aY;clear bq;have de:K<=4:=UN;go_wp2;go_loopw [9] (λaW wr=> ∃(k:Nat) (rd:iY) (v:Value) (outs:List jZ),k<=K/\aW= UZ k/\outs.length=k/\mR w p q B (.slice U ins.length c1) v 0 rd wr/\mM C wr v outs/\h8.rel (λx=>B<=x/\x<C) wr [.slice U ins.length c1] ins/\C<=wr.heap.size/\Hi (iY.notes (K-k) rd outs=iY.notes K r2 [])) (λaW _=>K-(intOf aW).toNat)
    case atStart=>exact⟨0,r2,S0,[],iy _,rfl,rfl,aY.o,Own.nil _ _ _ _ _,bb.o,ce,rfl⟩
    case round=>
     obtain⟨al,kt,v,outs,df,rfl,aF,ae,ag,aM,ch,ak⟩:=hrel;obtain⟨ra,rc,q1, -, -⟩:=ae.rd;obtain⟨f0,f1⟩:=a' q1;clear q1;by_cases dh:al<K
     ·cases aI:kt.fail with
      |false=>
       rw [aI]at f0;obtain⟨j,aJ⟩: ∃j,K-al=j+1:=⟨K-al-1,UN⟩;have a6:(al:Int)<(K:Int):=UN;have bH:Hi (K-(al+1)=j):=Hd UN;rw [aJ]at ak;clear aJ;have bD:Hi (iY.notes j kt.n4 (outs++ [kt.note])=iY.notes K r2 []):=by
        show _=_;rw [<-ak.o];show _=if kt.fail=true then (outs,kt)else iY.notes j kt.n4 (outs++ [kt.note]);rw [g3 (by rw [aI];simp)]
       obtain⟨aZ,HOr,bW⟩:=kT (ae.drew G.o) (show mM C wr.drew v outs from ag.c' (g' _ _).drew) (h8.c' aM (g' _ _).drew);obtain⟨dt,cC⟩:=a' ae.box;clear ak ae ag aM;have cT:=Hd (λk (aN:v.ownBlock=some k)=>(HOr.o.lt aN).1);go_wp2_with fail;clear f0 f1
       go_region_law (first
        |(refine iV (r:=nP) (base:=C) (v:=v) (u:= .slice (some ⟨aX.heap.size,0,none⟩) 1 1) (S:=λ_=>False) rfl _ _ rfl Bi rfl rfl (Own.c' bJ.o (hd (g' _ _) _)) (Src.one (nP.mk bw) (jx.new aX [kt.note.value,kt.note.owner,kt.note.jr,kt.note.blind] 260)) (λk _ aN=>aN.elim) (λk aN h=>h) (by unfold maxLen;simp;omega) (by simp;omega) (by rw [U4];omega) ?_
          intro v2 aH a4 bB di;obtain⟨a2,aq,rfl, -, -⟩:=g4.form a4.slice;have bp:Kept (λk=>k<C) (aX.alloc (.cells #[kt.note.value,kt.note.owner,kt.note.jr,kt.note.blind] 260)) aH:=bB.mono λk _ dg cp=>(by have:=(Own.lt bJ.o cp).2.2;omega);have a5:=Hd (mR.kept G.o (mR.c' G.o a8.o (hd (g' _ _) _)) (bp.mono (S':=λk=>k<B) λk _ cq=>jg cq ap));have bY:=Hd (h8.keep (h8.c' bX.o (hd (g' _ _) _)) (bp.mono λk _ h=>h.2));have cf:C<=aH.heap.size:=iu bN (iu (by rw [U4];omega) bp.size);have bK:Hi (mM C aH (.slice a2 (outs++ [kt.note]).length aq) (outs++ [kt.note])):=a4.mono λk _ h=>by
           rcases h with h|h
           ·exact h
           ·exact .inr (iu bN (iu (by rw [U4];omega) h))
          obtain⟨aK,aL⟩:=a' a5.o.box)
        |(go_simp;go_at_call 190;refine(vA _ p kt aZ.o.rd).mono ?_;rintro e aX⟨rfl,az,bw⟩
          obtain⟨a8,bJ⟩:=ik (mR.read G.o aZ.o az) (mM.FD HOr.o (jg G.o.pB ap) az);obtain⟨dx,cD⟩:=a' a8.o.box;have dC:=λo'=>(a' (iq (o':=o') a8.o.box)).1;have bN:C<=aX.heap.size:=iu ch az.2.size;have bX:=Hd (h8.keep bW.o (az.2.mono λx _ h=>oi (jg G.o.pB h.1)))))
       all_goals
        have bC:=Hd (mR.store G.o a5.o 1 (.slice a2 (outs++ [kt.note]).length aq) rfl);have bL:=Hd (mM.store bK.o (jg G.o.qB ap) 1 (.slice a2 (outs++ [kt.note]).length aq));have bZ:=Hd (h8.keep bY.o ((Kept.refl _ aH).setCell (p:=⟨q,1,none⟩) (λ_ h=>by have bm:B<=q/\q<C:=h;have:=G.o.qB;omega) (.slice a2 (outs++ [kt.note]).length aq)));have cg:C<=(aH.setCell ⟨q,1,none⟩ (.slice a2 (outs++ [kt.note]).length aq)).heap.size:=(by rw [Ub];exact cf);go_wp2;go_roundw
        case rel=>exact⟨al+1,kt.n4,.slice a2 (outs++ [kt.note]).length aq,outs++ [kt.note],UN,by go_num,by rw [U3,aF];rfl,by simpa [aF]using bC.o,by simpa [aF]using bL.o,by simpa [aF]using bZ.o,by simpa [aF]using cg,by rw [bH.o];exact bD⟩
        case measure=>exact UY
      |true=>
       rw [aI]at f0;have a6:(al:Int)<(K:Int):=UN;have aT:iY.notes K r2 []=(outs,kt):=by
        rw [<-ak.o];obtain⟨j,aJ⟩: ∃j,K-al=j+1:=⟨K-al-1,UN⟩;rw [aJ];unfold iY.notes;rw [g7 aI]
       have dk:outs.length<=4:=UN;clear ak aF;have a9:Hi (iY.notes K r2 []=(outs,kt)):=aT;obtain⟨a2,c2,rfl, -, -⟩:=g4.form ag.slice;obtain⟨bj,bg,ar⟩:=kT (i6.mono ag.slice (S':=λk=>C<=k) λx _ h=>h.resolve_left id) aM ae;have aj:Hi (iS bs=if (kt.uint 18446744073709551615).2.fail=true\/(kt.uint 18446744073709551615).2.b.length>0\/lw ⟨ins,outs,(kt.uint 18446744073709551615).1⟩=false then none else some ⟨ins,outs,(kt.uint 18446744073709551615).1⟩):=by
        show _=_;unfold iS;rw [bT.o,bU.o,jJ,bE.o];simp only;rw [bI.o,HR2.o,jJ,a9.o]
       clear aT ae ag aM aY bb;go_wp2_with fail;clear f0 f1;refine(ms _ p kt ar.o.rd 18446744073709551615 UN).mono ?_;rintro e ay⟨rfl,au,s0,s1⟩;have aA:=Hd (ar.o.read G.o au);have bh:=Hd (i6.keep bj.o (au.2.mono λx _ h=>oi (jg G.o.pB (iu ap h))));have be:=Hd (h8.keep bg.o (au.2.mono λx _ h=>oi (jg G.o.pB h.1)));generalize kt.uint 18446744073709551615=t at*;obtain⟨sec,ax⟩:=t;simp only at aA aj s0 s1⊢;obtain⟨aK,aL⟩:=a' aA.o.box;have ai:=Hd (mR.store G.o aA.o 2 (U2 sec) (u1:= .slice U ins.length c1) (u2:= .slice a2 outs.length c2) (zh:=sec) rfl);have aE:Kept (λk=>B<=k) ay (ay.setCell ⟨q,2,none⟩ (U2 sec)):=(Kept.refl _ _).setCell (λ_ h=>by have bm:B<=q:=h;have:=G.o.qB;omega) _;obtain⟨aP,aO⟩:=ik (i6.keep bh.o (aE.mono λk _ h=>iu ap h)) (h8.keep be.o (aE.mono λk _ h=>h.1));have bk:Hi (p9 (λ_=>True) (ay.setCell ⟨q,2,none⟩ (U2 sec)) ⟨ins,outs,sec⟩ U a2 c1 c2):=⟨h8.mono aO.o λ_ _ _=>trivial,i6.mono aP.o λ_ _ _=>trivial,ir s0 (by show sec<_;omega)⟩;clear aE au;obtain⟨ra,rc,q1,q2, -⟩:=ai.o.rd;obtain⟨aG,bv⟩:=a' q1;obtain⟨f0,f1⟩:=a' ai.o.res;obtain⟨a0,a1⟩:=a' ai.o.box;have af:=Hd ai.o.below;have bt:=(g4.lens q2).2;unfold maxLen at bt;clear q1 q2
       cases av:ax.fail with
       |true=>
        rw [av]at aG;have V:Hi (iS bs=none):=Hd (by rw [aj.o,g7 (.inl av)]);obtain⟨Y,ab,ad⟩:=lV (x:= S0) (y:= S0) (z:= U0) (f0 0) (f0 1) (f0 2);go_wp2_with fail;refine iQ (v:= .tuple #[.agg #[S0,S0,U0],false]) (by simp [results,results131,go_sem,Y,ab,ad]) rfl ?_;unfold lB;rw [V.o];exact⟨rfl,((af.o.setCell (g9 _) _).setCell (g9 _) _).setCell (g9 _) _⟩
       |false=>
        rw [av]at aG;by_cases aV:ax.b.length>0
        ·have br:(0:Int)<(ax.b.length:Int):=UN
         have V:Hi (iS bs=none):=Hd (by rw [aj.o,g7 (.inr (.inl aV))]);obtain⟨Y,ab,ad⟩:=lV (x:= S0) (y:= S0) (z:= U0) (f0 0) (f0 1) (f0 2);go_wp2_with fail;refine iQ (v:= .tuple #[.agg #[S0,S0,U0],false]) (by simp [results,results131,go_sem,Y,ab,ad]) rfl ?_;unfold lB;rw [V.o];exact⟨rfl,((af.o.setCell (g9 _) _).setCell (g9 _) _).setCell (g9 _) _⟩
        ·have br: ¬(0:Int)<(ax.b.length:Int):=UN
         go_wp2_with fail;clear f0 f1 a0 a1;refine UR (rA (λ_=>True) _ ⟨ins,outs,sec⟩ U a2 c1 c2 bk.o) λah aD=> ?_;obtain⟨aC,bi,bf⟩:=kT (ai.o.c' G.o aD) (i6.c' aP.o aD) (h8.c' aO.o aD);clear aG bv aK aL af;obtain⟨aK,aL⟩:=a' aC.o.box;obtain⟨f0,f1⟩:=a' aC.o.res;have af:=Hd aC.o.below
         cases aQ:lw ⟨ins,outs,sec⟩with
         |false=>
          have V:Hi (iS bs=none):=Hd (by rw [aj.o,g7 (.inr (.inr aQ))]);obtain⟨Y,ab,ad⟩:=lV (x:= S0) (y:= S0) (z:= U0) (f0 0) (f0 1) (f0 2);go_wp2_with fail;refine iQ (v:= .tuple #[.agg #[S0,S0,U0],false]) (by simp [results,results131,go_sem,Y,ab,ad]) rfl ?_;unfold lB;rw [V.o];exact⟨rfl,((af.o.setCell (g9 _) _).setCell (g9 _) _).setCell (g9 _) _⟩
         |true=>
          have V:Hi (iS bs=some ⟨ins,outs,sec⟩):=by show _=_;rw [aj.o,g3 (by
           rintro(h|h|h)
           ·rw [av]at h;cases h
           ·exact aV h
           ·rw [aQ]at h;cases h)]
          obtain⟨Y,ab,ad⟩:=lV (x:= .slice U ins.length c1) (y:= .slice a2 outs.length c2) (z:= U2 sec) (f0 0) (f0 1) (f0 2);go_wp2_with fail;refine iQ (v:= .tuple #[.agg #[.slice U ins.length c1,.slice a2 outs.length c2,sec],true]) (by simp [results,results131,go_sem,Y,ab,ad]) rfl ?_;have aU:Kept (λk=>B<=k) ah (((ah.setCell ⟨w.heap.size,0,none⟩ (.slice U ins.length c1)).setCell ⟨w.heap.size,1,none⟩ (.slice a2 outs.length c2)).setCell ⟨w.heap.size,2,none⟩ (U2 sec)):=by
           have aw:w.heap.size<ah.heap.size-> ¬B<=w.heap.size:=λ_ h=>(by have:=G.o.wq;have:=G.o.qB;omega);exact(((Kept.refl _ _).setCell aw _).setCell aw _).setCell aw _
          unfold lB;rw [V.o]
          exact⟨U,c1,a2,c2,rfl,h8.mono (h8.keep bf.o (aU.mono λk _ h=>h.1)) λ_ _ _=>trivial,i6.mono (i6.keep bi.o (aU.mono λk _ h=>iu ap h)) λ_ _ _=>trivial,ir s0 (by show sec<_;omega),
           ((af.o.setCell (g9 _) _).setCell (g9 _) _).setCell (g9 _) _⟩
     ·have a6: ¬(al:Int)<(K:Int):=UN
      have aT:iY.notes K r2 []=(outs,kt):=by
       rw [<-ak.o,show K-al=0 by omega];rfl
      clear ak aF;have a9:Hi (iY.notes K r2 []=(outs,kt)):=aT;obtain⟨a2,c2,rfl, -, -⟩:=g4.form ag.slice;obtain⟨bj,bg,ar⟩:=kT (i6.mono ag.slice (S':=λk=>C<=k) λx _ h=>h.resolve_left id) aM ae;have aj:Hi (iS bs=if (kt.uint 18446744073709551615).2.fail=true\/(kt.uint 18446744073709551615).2.b.length>0\/lw ⟨ins,outs,(kt.uint 18446744073709551615).1⟩=false then none else some ⟨ins,outs,(kt.uint 18446744073709551615).1⟩):=by
       show _=_;unfold iS;rw [bT.o,bU.o,jJ,bE.o];simp only;rw [bI.o,HR2.o,jJ,a9.o]
      clear aT ae ag aM aY bb;go_wp2_with fail;clear f0 f1;refine(ms _ p kt ar.o.rd 18446744073709551615 UN).mono ?_;rintro e ay⟨rfl,au,s0,s1⟩;have aA:=Hd (ar.o.read G.o au);have bh:=Hd (i6.keep bj.o (au.2.mono λx _ h=>oi (jg G.o.pB (iu ap h))));have be:=Hd (h8.keep bg.o (au.2.mono λx _ h=>oi (jg G.o.pB h.1)));generalize kt.uint 18446744073709551615=t at*;obtain⟨sec,ax⟩:=t;simp only at aA aj s0 s1⊢;obtain⟨aK,aL⟩:=a' aA.o.box;have ai:=Hd (mR.store G.o aA.o 2 (U2 sec) (u1:= .slice U ins.length c1) (u2:= .slice a2 outs.length c2) (zh:=sec) rfl);have aE:Kept (λk=>B<=k) ay (ay.setCell ⟨q,2,none⟩ (U2 sec)):=(Kept.refl _ _).setCell (λ_ h=>by have bm:B<=q:=h;have:=G.o.qB;omega) _;obtain⟨aP,aO⟩:=ik (i6.keep bh.o (aE.mono λk _ h=>iu ap h)) (h8.keep be.o (aE.mono λk _ h=>h.1));have bk:Hi (p9 (λ_=>True) (ay.setCell ⟨q,2,none⟩ (U2 sec)) ⟨ins,outs,sec⟩ U a2 c1 c2):=⟨h8.mono aO.o λ_ _ _=>trivial,i6.mono aP.o λ_ _ _=>trivial,ir s0 (by show sec<_;omega)⟩;clear aE au;obtain⟨ra,rc,q1,q2, -⟩:=ai.o.rd;obtain⟨aG,bv⟩:=a' q1;obtain⟨f0,f1⟩:=a' ai.o.res;obtain⟨a0,a1⟩:=a' ai.o.box;have af:=Hd ai.o.below;have bt:=(g4.lens q2).2;unfold maxLen at bt;clear q1 q2
      cases av:ax.fail with
      |true=>
       rw [av]at aG;have V:Hi (iS bs=none):=Hd (by rw [aj.o,g7 (.inl av)]);obtain⟨Y,ab,ad⟩:=lV (x:= S0) (y:= S0) (z:= U0) (f0 0) (f0 1) (f0 2);go_wp2_with fail;refine iQ (v:= .tuple #[.agg #[S0,S0,U0],false]) (by simp [results,results131,go_sem,Y,ab,ad]) rfl ?_;unfold lB;rw [V.o];exact⟨rfl,((af.o.setCell (g9 _) _).setCell (g9 _) _).setCell (g9 _) _⟩
      |false=>
       rw [av]at aG;by_cases aV:ax.b.length>0
       ·have br:(0:Int)<(ax.b.length:Int):=UN
        have V:Hi (iS bs=none):=Hd (by rw [aj.o,g7 (.inr (.inl aV))]);obtain⟨Y,ab,ad⟩:=lV (x:= S0) (y:= S0) (z:= U0) (f0 0) (f0 1) (f0 2);go_wp2_with fail;refine iQ (v:= .tuple #[.agg #[S0,S0,U0],false]) (by simp [results,results131,go_sem,Y,ab,ad]) rfl ?_;unfold lB;rw [V.o];exact⟨rfl,((af.o.setCell (g9 _) _).setCell (g9 _) _).setCell (g9 _) _⟩
       ·have br: ¬(0:Int)<(ax.b.length:Int):=UN
        go_wp2_with fail;clear f0 f1 a0 a1;refine UR (rA (λ_=>True) _ ⟨ins,outs,sec⟩ U a2 c1 c2 bk.o) λah aD=> ?_;obtain⟨aC,bi,bf⟩:=kT (ai.o.c' G.o aD) (i6.c' aP.o aD) (h8.c' aO.o aD);clear aG bv aK aL af;obtain⟨aK,aL⟩:=a' aC.o.box;obtain⟨f0,f1⟩:=a' aC.o.res;have af:=Hd aC.o.below
        cases aQ:lw ⟨ins,outs,sec⟩with
        |false=>
         have V:Hi (iS bs=none):=Hd (by rw [aj.o,g7 (.inr (.inr aQ))]);obtain⟨Y,ab,ad⟩:=lV (x:= S0) (y:= S0) (z:= U0) (f0 0) (f0 1) (f0 2);go_wp2_with fail;refine iQ (v:= .tuple #[.agg #[S0,S0,U0],false]) (by simp [results,results131,go_sem,Y,ab,ad]) rfl ?_;unfold lB;rw [V.o];exact⟨rfl,((af.o.setCell (g9 _) _).setCell (g9 _) _).setCell (g9 _) _⟩
        |true=>
         have V:Hi (iS bs=some ⟨ins,outs,sec⟩):=by show _=_;rw [aj.o,g3 (by
          rintro(h|h|h)
          ·rw [av]at h;cases h
          ·exact aV h
          ·rw [aQ]at h;cases h)]
         obtain⟨Y,ab,ad⟩:=lV (x:= .slice U ins.length c1) (y:= .slice a2 outs.length c2) (z:= U2 sec) (f0 0) (f0 1) (f0 2);go_wp2_with fail;refine iQ (v:= .tuple #[.agg #[.slice U ins.length c1,.slice a2 outs.length c2,sec],true]) (by simp [results,results131,go_sem,Y,ab,ad]) rfl ?_;have aU:Kept (λk=>B<=k) ah (((ah.setCell ⟨w.heap.size,0,none⟩ (.slice U ins.length c1)).setCell ⟨w.heap.size,1,none⟩ (.slice a2 outs.length c2)).setCell ⟨w.heap.size,2,none⟩ (U2 sec)):=by
          have aw:w.heap.size<ah.heap.size-> ¬B<=w.heap.size:=λ_ h=>(by have:=G.o.wq;have:=G.o.qB;omega);exact(((Kept.refl _ _).setCell aw _).setCell aw _).setCell aw _
         unfold lB;rw [V.o]
         exact⟨U,c1,a2,c2,rfl,h8.mono (h8.keep bf.o (aU.mono λk _ h=>h.1)) λ_ _ _=>trivial,i6.mono (i6.keep bi.o (aU.mono λk _ h=>iu ap h)) λ_ _ _=>trivial,ir s0 (by show sec<_;omega),
          ((af.o.setCell (g9 _) _).setCell (g9 _) _).setCell (g9 _) _⟩
  ·have a6: ¬(k:Int)<(N:Int):=UN
   have bE:Hi (iY.jE N r1 []=(ins,rd)):=by
    show _=_;rw [<-ak.o,show N-k=0 by omega];rfl
   clear ak bP;have ap:=ae.base;have bF:=Hd (h8.bound ag.slice);obtain⟨U,c1,rfl, -, -⟩:=g4.form ag.slice;obtain⟨C,bn⟩:=iF (wr.heap.size);rw [bn]at ap;have bG:Hi (h8.rel (λx=>B<=x/\x<C) wr [.slice U ins.length c1] ins):=h8.mono bF.o λx _ h=>⟨h.1.resolve_left id,by rw [<-bn];exact h.2⟩;have ar:=Hd ae;have cj:C<=wr.heap.size:=UN;clear ae ag bF bn bS;go_wp2_with fail;clear f0 f1;refine(ox wr p rd ar.o.rd 4 UN).mono ?_;rintro e bx⟨rfl,a3,n2,n3⟩;have aY:=Hd (ar.o.read G.o a3);have bb:Hi (h8.rel (λx=>B<=x/\x<C) bx [.slice U ins.length c1] ins):=h8.keep bG.o (a3.2.mono λx _ h=>oi (jg G.o.pB h.1));have ce:C<=bx.heap.size:=iu cj a3.2.size;obtain⟨K,bo⟩:=lv n2;have bI:=Hd bo;rw [bo]at n3⊢;clear bo n2 a3 ar bG;obtain⟨r2,bq⟩:=iF ((rd.int 4).2);have HR2:=Hd bq;rw [bq]at aY;clear bq;have de:K<=4:=UN;go_wp2;go_loopw [9] (λaW wr=> ∃(k:Nat) (rd:iY) (v:Value) (outs:List jZ),k<=K/\aW= UZ k/\outs.length=k/\mR w p q B (.slice U ins.length c1) v 0 rd wr/\mM C wr v outs/\h8.rel (λx=>B<=x/\x<C) wr [.slice U ins.length c1] ins/\C<=wr.heap.size/\Hi (iY.notes (K-k) rd outs=iY.notes K r2 [])) (λaW _=>K-(intOf aW).toNat)
   case atStart=>exact⟨0,r2,S0,[],iy _,rfl,rfl,aY.o,Own.nil _ _ _ _ _,bb.o,ce,rfl⟩
   case round=>
    obtain⟨al,kt,v,outs,df,rfl,aF,ae,ag,aM,ch,ak⟩:=hrel;obtain⟨ra,rc,q1, -, -⟩:=ae.rd;obtain⟨f0,f1⟩:=a' q1;clear q1;by_cases dh:al<K
    ·cases aI:kt.fail with
     |false=>
      rw [aI]at f0;obtain⟨j,aJ⟩: ∃j,K-al=j+1:=⟨K-al-1,UN⟩;have a6:(al:Int)<(K:Int):=UN;have bH:Hi (K-(al+1)=j):=Hd UN;rw [aJ]at ak;clear aJ;have bD:Hi (iY.notes j kt.n4 (outs++ [kt.note])=iY.notes K r2 []):=by
       show _=_;rw [<-ak.o];show _=if kt.fail=true then (outs,kt)else iY.notes j kt.n4 (outs++ [kt.note]);rw [g3 (by rw [aI];simp)]
      obtain⟨aZ,HOr,bW⟩:=kT (ae.drew G.o) (show mM C wr.drew v outs from ag.c' (g' _ _).drew) (h8.c' aM (g' _ _).drew);obtain⟨dt,cC⟩:=a' ae.box;clear ak ae ag aM;have cT:=Hd (λk (aN:v.ownBlock=some k)=>(HOr.o.lt aN).1);go_wp2_with fail;clear f0 f1
      go_region_law (first
       |(refine iV (r:=nP) (base:=C) (v:=v) (u:= .slice (some ⟨aX.heap.size,0,none⟩) 1 1) (S:=λ_=>False) rfl _ _ rfl Bi rfl rfl (Own.c' bJ.o (hd (g' _ _) _)) (Src.one (nP.mk bw) (jx.new aX [kt.note.value,kt.note.owner,kt.note.jr,kt.note.blind] 260)) (λk _ aN=>aN.elim) (λk aN h=>h) (by unfold maxLen;simp;omega) (by simp;omega) (by rw [U4];omega) ?_
         intro v2 aH a4 bB di;obtain⟨a2,aq,rfl, -, -⟩:=g4.form a4.slice;have bp:Kept (λk=>k<C) (aX.alloc (.cells #[kt.note.value,kt.note.owner,kt.note.jr,kt.note.blind] 260)) aH:=bB.mono λk _ dg cp=>(by have:=(Own.lt bJ.o cp).2.2;omega);have a5:=Hd (mR.kept G.o (mR.c' G.o a8.o (hd (g' _ _) _)) (bp.mono (S':=λk=>k<B) λk _ cq=>jg cq ap));have bY:=Hd (h8.keep (h8.c' bX.o (hd (g' _ _) _)) (bp.mono λk _ h=>h.2));have cf:C<=aH.heap.size:=iu bN (iu (by rw [U4];omega) bp.size);have bK:Hi (mM C aH (.slice a2 (outs++ [kt.note]).length aq) (outs++ [kt.note])):=a4.mono λk _ h=>by
          rcases h with h|h
          ·exact h
          ·exact .inr (iu bN (iu (by rw [U4];omega) h))
         obtain⟨aK,aL⟩:=a' a5.o.box)
       |(go_simp;go_at_call 190;refine(vA _ p kt aZ.o.rd).mono ?_;rintro e aX⟨rfl,az,bw⟩
         obtain⟨a8,bJ⟩:=ik (mR.read G.o aZ.o az) (mM.FD HOr.o (jg G.o.pB ap) az);obtain⟨dx,cD⟩:=a' a8.o.box;have dC:=λo'=>(a' (iq (o':=o') a8.o.box)).1;have bN:C<=aX.heap.size:=iu ch az.2.size;have bX:=Hd (h8.keep bW.o (az.2.mono λx _ h=>oi (jg G.o.pB h.1)))))
      all_goals
       have bC:=Hd (mR.store G.o a5.o 1 (.slice a2 (outs++ [kt.note]).length aq) rfl);have bL:=Hd (mM.store bK.o (jg G.o.qB ap) 1 (.slice a2 (outs++ [kt.note]).length aq));have bZ:=Hd (h8.keep bY.o ((Kept.refl _ aH).setCell (p:=⟨q,1,none⟩) (λ_ h=>by have bm:B<=q/\q<C:=h;have:=G.o.qB;omega) (.slice a2 (outs++ [kt.note]).length aq)));have cg:C<=(aH.setCell ⟨q,1,none⟩ (.slice a2 (outs++ [kt.note]).length aq)).heap.size:=(by rw [Ub];exact cf);go_wp2;go_roundw
       case rel=>exact⟨al+1,kt.n4,.slice a2 (outs++ [kt.note]).length aq,outs++ [kt.note],UN,by go_num,by rw [U3,aF];rfl,by simpa [aF]using bC.o,by simpa [aF]using bL.o,by simpa [aF]using bZ.o,by simpa [aF]using cg,by rw [bH.o];exact bD⟩
       case measure=>exact UY
     |true=>
      rw [aI]at f0;have a6:(al:Int)<(K:Int):=UN;have aT:iY.notes K r2 []=(outs,kt):=by
       rw [<-ak.o];obtain⟨j,aJ⟩: ∃j,K-al=j+1:=⟨K-al-1,UN⟩;rw [aJ];unfold iY.notes;rw [g7 aI]
      have dk:outs.length<=4:=UN;clear ak aF;have a9:Hi (iY.notes K r2 []=(outs,kt)):=aT;obtain⟨a2,c2,rfl, -, -⟩:=g4.form ag.slice;obtain⟨bj,bg,ar⟩:=kT (i6.mono ag.slice (S':=λk=>C<=k) λx _ h=>h.resolve_left id) aM ae;have aj:Hi (iS bs=if (kt.uint 18446744073709551615).2.fail=true\/(kt.uint 18446744073709551615).2.b.length>0\/lw ⟨ins,outs,(kt.uint 18446744073709551615).1⟩=false then none else some ⟨ins,outs,(kt.uint 18446744073709551615).1⟩):=by
       show _=_;unfold iS;rw [bT.o,bU.o,jJ,bE.o];simp only;rw [bI.o,HR2.o,jJ,a9.o]
      clear aT ae ag aM aY bb;go_wp2_with fail;clear f0 f1;refine(ms _ p kt ar.o.rd 18446744073709551615 UN).mono ?_;rintro e ay⟨rfl,au,s0,s1⟩;have aA:=Hd (ar.o.read G.o au);have bh:=Hd (i6.keep bj.o (au.2.mono λx _ h=>oi (jg G.o.pB (iu ap h))));have be:=Hd (h8.keep bg.o (au.2.mono λx _ h=>oi (jg G.o.pB h.1)));generalize kt.uint 18446744073709551615=t at*;obtain⟨sec,ax⟩:=t;simp only at aA aj s0 s1⊢;obtain⟨aK,aL⟩:=a' aA.o.box;have ai:=Hd (mR.store G.o aA.o 2 (U2 sec) (u1:= .slice U ins.length c1) (u2:= .slice a2 outs.length c2) (zh:=sec) rfl);have aE:Kept (λk=>B<=k) ay (ay.setCell ⟨q,2,none⟩ (U2 sec)):=(Kept.refl _ _).setCell (λ_ h=>by have bm:B<=q:=h;have:=G.o.qB;omega) _;obtain⟨aP,aO⟩:=ik (i6.keep bh.o (aE.mono λk _ h=>iu ap h)) (h8.keep be.o (aE.mono λk _ h=>h.1));have bk:Hi (p9 (λ_=>True) (ay.setCell ⟨q,2,none⟩ (U2 sec)) ⟨ins,outs,sec⟩ U a2 c1 c2):=⟨h8.mono aO.o λ_ _ _=>trivial,i6.mono aP.o λ_ _ _=>trivial,ir s0 (by show sec<_;omega)⟩;clear aE au;obtain⟨ra,rc,q1,q2, -⟩:=ai.o.rd;obtain⟨aG,bv⟩:=a' q1;obtain⟨f0,f1⟩:=a' ai.o.res;obtain⟨a0,a1⟩:=a' ai.o.box;have af:=Hd ai.o.below;have bt:=(g4.lens q2).2;unfold maxLen at bt;clear q1 q2
      cases av:ax.fail with
      |true=>
       rw [av]at aG;have V:Hi (iS bs=none):=Hd (by rw [aj.o,g7 (.inl av)]);obtain⟨Y,ab,ad⟩:=lV (x:= S0) (y:= S0) (z:= U0) (f0 0) (f0 1) (f0 2);go_wp2_with fail;refine iQ (v:= .tuple #[.agg #[S0,S0,U0],false]) (by simp [results,results131,go_sem,Y,ab,ad]) rfl ?_;unfold lB;rw [V.o];exact⟨rfl,((af.o.setCell (g9 _) _).setCell (g9 _) _).setCell (g9 _) _⟩
      |false=>
       rw [av]at aG;by_cases aV:ax.b.length>0
       ·have br:(0:Int)<(ax.b.length:Int):=UN
        have V:Hi (iS bs=none):=Hd (by rw [aj.o,g7 (.inr (.inl aV))]);obtain⟨Y,ab,ad⟩:=lV (x:= S0) (y:= S0) (z:= U0) (f0 0) (f0 1) (f0 2);go_wp2_with fail;refine iQ (v:= .tuple #[.agg #[S0,S0,U0],false]) (by simp [results,results131,go_sem,Y,ab,ad]) rfl ?_;unfold lB;rw [V.o];exact⟨rfl,((af.o.setCell (g9 _) _).setCell (g9 _) _).setCell (g9 _) _⟩
       ·have br: ¬(0:Int)<(ax.b.length:Int):=UN
        go_wp2_with fail;clear f0 f1 a0 a1;refine UR (rA (λ_=>True) _ ⟨ins,outs,sec⟩ U a2 c1 c2 bk.o) λah aD=> ?_;obtain⟨aC,bi,bf⟩:=kT (ai.o.c' G.o aD) (i6.c' aP.o aD) (h8.c' aO.o aD);clear aG bv aK aL af;obtain⟨aK,aL⟩:=a' aC.o.box;obtain⟨f0,f1⟩:=a' aC.o.res;have af:=Hd aC.o.below
        cases aQ:lw ⟨ins,outs,sec⟩with
        |false=>
         have V:Hi (iS bs=none):=Hd (by rw [aj.o,g7 (.inr (.inr aQ))]);obtain⟨Y,ab,ad⟩:=lV (x:= S0) (y:= S0) (z:= U0) (f0 0) (f0 1) (f0 2);go_wp2_with fail;refine iQ (v:= .tuple #[.agg #[S0,S0,U0],false]) (by simp [results,results131,go_sem,Y,ab,ad]) rfl ?_;unfold lB;rw [V.o];exact⟨rfl,((af.o.setCell (g9 _) _).setCell (g9 _) _).setCell (g9 _) _⟩
        |true=>
         have V:Hi (iS bs=some ⟨ins,outs,sec⟩):=by show _=_;rw [aj.o,g3 (by
          rintro(h|h|h)
          ·rw [av]at h;cases h
          ·exact aV h
          ·rw [aQ]at h;cases h)]
         obtain⟨Y,ab,ad⟩:=lV (x:= .slice U ins.length c1) (y:= .slice a2 outs.length c2) (z:= U2 sec) (f0 0) (f0 1) (f0 2);go_wp2_with fail;refine iQ (v:= .tuple #[.agg #[.slice U ins.length c1,.slice a2 outs.length c2,sec],true]) (by simp [results,results131,go_sem,Y,ab,ad]) rfl ?_;have aU:Kept (λk=>B<=k) ah (((ah.setCell ⟨w.heap.size,0,none⟩ (.slice U ins.length c1)).setCell ⟨w.heap.size,1,none⟩ (.slice a2 outs.length c2)).setCell ⟨w.heap.size,2,none⟩ (U2 sec)):=by
          have aw:w.heap.size<ah.heap.size-> ¬B<=w.heap.size:=λ_ h=>(by have:=G.o.wq;have:=G.o.qB;omega);exact(((Kept.refl _ _).setCell aw _).setCell aw _).setCell aw _
         unfold lB;rw [V.o]
         exact⟨U,c1,a2,c2,rfl,h8.mono (h8.keep bf.o (aU.mono λk _ h=>h.1)) λ_ _ _=>trivial,i6.mono (i6.keep bi.o (aU.mono λk _ h=>iu ap h)) λ_ _ _=>trivial,ir s0 (by show sec<_;omega),
          ((af.o.setCell (g9 _) _).setCell (g9 _) _).setCell (g9 _) _⟩
    ·have a6: ¬(al:Int)<(K:Int):=UN
     have aT:iY.notes K r2 []=(outs,kt):=by
      rw [<-ak.o,show K-al=0 by omega];rfl
     clear ak aF;have a9:Hi (iY.notes K r2 []=(outs,kt)):=aT;obtain⟨a2,c2,rfl, -, -⟩:=g4.form ag.slice;obtain⟨bj,bg,ar⟩:=kT (i6.mono ag.slice (S':=λk=>C<=k) λx _ h=>h.resolve_left id) aM ae;have aj:Hi (iS bs=if (kt.uint 18446744073709551615).2.fail=true\/(kt.uint 18446744073709551615).2.b.length>0\/lw ⟨ins,outs,(kt.uint 18446744073709551615).1⟩=false then none else some ⟨ins,outs,(kt.uint 18446744073709551615).1⟩):=by
      show _=_;unfold iS;rw [bT.o,bU.o,jJ,bE.o];simp only;rw [bI.o,HR2.o,jJ,a9.o]
     clear aT ae ag aM aY bb;go_wp2_with fail;clear f0 f1;refine(ms _ p kt ar.o.rd 18446744073709551615 UN).mono ?_;rintro e ay⟨rfl,au,s0,s1⟩;have aA:=Hd (ar.o.read G.o au);have bh:=Hd (i6.keep bj.o (au.2.mono λx _ h=>oi (jg G.o.pB (iu ap h))));have be:=Hd (h8.keep bg.o (au.2.mono λx _ h=>oi (jg G.o.pB h.1)));generalize kt.uint 18446744073709551615=t at*;obtain⟨sec,ax⟩:=t;simp only at aA aj s0 s1⊢;obtain⟨aK,aL⟩:=a' aA.o.box;have ai:=Hd (mR.store G.o aA.o 2 (U2 sec) (u1:= .slice U ins.length c1) (u2:= .slice a2 outs.length c2) (zh:=sec) rfl);have aE:Kept (λk=>B<=k) ay (ay.setCell ⟨q,2,none⟩ (U2 sec)):=(Kept.refl _ _).setCell (λ_ h=>by have bm:B<=q:=h;have:=G.o.qB;omega) _;obtain⟨aP,aO⟩:=ik (i6.keep bh.o (aE.mono λk _ h=>iu ap h)) (h8.keep be.o (aE.mono λk _ h=>h.1));have bk:Hi (p9 (λ_=>True) (ay.setCell ⟨q,2,none⟩ (U2 sec)) ⟨ins,outs,sec⟩ U a2 c1 c2):=⟨h8.mono aO.o λ_ _ _=>trivial,i6.mono aP.o λ_ _ _=>trivial,ir s0 (by show sec<_;omega)⟩;clear aE au;obtain⟨ra,rc,q1,q2, -⟩:=ai.o.rd;obtain⟨aG,bv⟩:=a' q1;obtain⟨f0,f1⟩:=a' ai.o.res;obtain⟨a0,a1⟩:=a' ai.o.box;have af:=Hd ai.o.below;have bt:=(g4.lens q2).2;unfold maxLen at bt;clear q1 q2
     cases av:ax.fail with
     |true=>
      rw [av]at aG;have V:Hi (iS bs=none):=Hd (by rw [aj.o,g7 (.inl av)]);obtain⟨Y,ab,ad⟩:=lV (x:= S0) (y:= S0) (z:= U0) (f0 0) (f0 1) (f0 2);go_wp2_with fail;refine iQ (v:= .tuple #[.agg #[S0,S0,U0],false]) (by simp [results,results131,go_sem,Y,ab,ad]) rfl ?_;unfold lB;rw [V.o];exact⟨rfl,((af.o.setCell (g9 _) _).setCell (g9 _) _).setCell (g9 _) _⟩
     |false=>
      rw [av]at aG;by_cases aV:ax.b.length>0
      ·have br:(0:Int)<(ax.b.length:Int):=UN
       have V:Hi (iS bs=none):=Hd (by rw [aj.o,g7 (.inr (.inl aV))]);obtain⟨Y,ab,ad⟩:=lV (x:= S0) (y:= S0) (z:= U0) (f0 0) (f0 1) (f0 2);go_wp2_with fail;refine iQ (v:= .tuple #[.agg #[S0,S0,U0],false]) (by simp [results,results131,go_sem,Y,ab,ad]) rfl ?_;unfold lB;rw [V.o];exact⟨rfl,((af.o.setCell (g9 _) _).setCell (g9 _) _).setCell (g9 _) _⟩
      ·have br: ¬(0:Int)<(ax.b.length:Int):=UN
       go_wp2_with fail;clear f0 f1 a0 a1;refine UR (rA (λ_=>True) _ ⟨ins,outs,sec⟩ U a2 c1 c2 bk.o) λah aD=> ?_;obtain⟨aC,bi,bf⟩:=kT (ai.o.c' G.o aD) (i6.c' aP.o aD) (h8.c' aO.o aD);clear aG bv aK aL af;obtain⟨aK,aL⟩:=a' aC.o.box;obtain⟨f0,f1⟩:=a' aC.o.res;have af:=Hd aC.o.below
       cases aQ:lw ⟨ins,outs,sec⟩with
       |false=>
        have V:Hi (iS bs=none):=Hd (by rw [aj.o,g7 (.inr (.inr aQ))]);obtain⟨Y,ab,ad⟩:=lV (x:= S0) (y:= S0) (z:= U0) (f0 0) (f0 1) (f0 2);go_wp2_with fail;refine iQ (v:= .tuple #[.agg #[S0,S0,U0],false]) (by simp [results,results131,go_sem,Y,ab,ad]) rfl ?_;unfold lB;rw [V.o];exact⟨rfl,((af.o.setCell (g9 _) _).setCell (g9 _) _).setCell (g9 _) _⟩
       |true=>
        have V:Hi (iS bs=some ⟨ins,outs,sec⟩):=by show _=_;rw [aj.o,g3 (by
         rintro(h|h|h)
         ·rw [av]at h;cases h
         ·exact aV h
         ·rw [aQ]at h;cases h)]
        obtain⟨Y,ab,ad⟩:=lV (x:= .slice U ins.length c1) (y:= .slice a2 outs.length c2) (z:= U2 sec) (f0 0) (f0 1) (f0 2);go_wp2_with fail;refine iQ (v:= .tuple #[.agg #[.slice U ins.length c1,.slice a2 outs.length c2,sec],true]) (by simp [results,results131,go_sem,Y,ab,ad]) rfl ?_;have aU:Kept (λk=>B<=k) ah (((ah.setCell ⟨w.heap.size,0,none⟩ (.slice U ins.length c1)).setCell ⟨w.heap.size,1,none⟩ (.slice a2 outs.length c2)).setCell ⟨w.heap.size,2,none⟩ (U2 sec)):=by
         have aw:w.heap.size<ah.heap.size-> ¬B<=w.heap.size:=λ_ h=>(by have:=G.o.wq;have:=G.o.qB;omega);exact(((Kept.refl _ _).setCell aw _).setCell aw _).setCell aw _
        unfold lB;rw [V.o]
        exact⟨U,c1,a2,c2,rfl,h8.mono (h8.keep bf.o (aU.mono λk _ h=>h.1)) λ_ _ _=>trivial,i6.mono (i6.keep bi.o (aU.mono λk _ h=>iu ap h)) λ_ _ _=>trivial,ir s0 (by show sec<_;omega),
         ((af.o.setCell (g9 _) _).setCell (g9 _) _).setCell (g9 _) _⟩
theorem y7 (S S':UO)(w:World)(D:Nat)(bl bu qu iz win fin work:Int)(s:zK)(ma ca ra:UP)(mc cc rc:Nat)(ad:vn S w s ma ca ra mc cc rc)(pa:UP)(pc:Nat)(proof:List Int)(U:hD.rel S' w [.slice pa proof.length pc] proof)(ap:proof.length<=1000000)(al:1<=D)(ao:D<=12):
 Calls prog 87 #[.agg ri,.agg (qs 2 D bl bu qu iz win fin work),.agg (qr D s ma mc ca cc ra rc),.slice pa proof.length pc] w (Rt w (.bool (p8 D s proof))):=by
 have ag:=Hd (Bz proof (pU U));have j:=(hd (hd (jc w (.cells ri 36)) (.cells (qs 2 D bl bu qu iz win fin work) 26)) (.cells (qr D s ma mc ca cc ra rc) 141));have ae:=Hd (lb w (.cells ri 36) (.cells (qs 2 D bl bu qu iz win fin work) 26) (.cells (qr D s ma mc ca cc ra rc) 141)).2.2;have aq:=Hd (lb w (.cells ri 36) (.cells (qs 2 D bl bu qu iz win fin work) 26) (.cells (qr D s ma mc ca cc ra rc) 141)).2.1;have af:=Hd (lb w (.cells ri 36) (.cells (qs 2 D bl bu qu iz win fin work) 26) (.cells (qr D s ma mc ca cc ra rc) 141)).1;obtain⟨V,ai,ah⟩:=kT j (ad.c' j) (hD.c' U j);have z:Hi (p8 D s proof=match nt proof with|none=>false|some t=>lU D s t==0):=rfl
 clear j ad U;go_in;go_wp2_with fail;generalize ((w.alloc (.cells ri 36)).alloc (.cells (qs 2 D bl bu qu iz win fin work) 26)).alloc (.cells (qr D s ma mc ca cc ra rc) 141)=W at*
 refine(Du W pa pc proof S' ah.o ap).mono ?_;intro e w1 K;unfold lB at K;rw [ag.o]at K
 revert K
 cases ab:nt proof with
 |none=>
  rintro⟨rfl,hb1⟩;have y:Hi (p8 D s proof=false):=Hd (by rw [z.o,ab]);go_wp2;go_ret;exact⟨g8 y.o.symm,d' V.o (hb1.new _)⟩
 |some x=>
  rintro⟨G,c1,a2,c2,rfl,h1,h2,ak,hb1⟩;have y:Hi (p8 D s proof=(lU D s x==0)):=Hd (by rw [z.o,ab]);have Y:=jc w1 (.cells #[.slice G x.ins.length c1,.slice a2 x.outs.length c2,x.hU] 197);have u:=d' hb1 Y;have aj:Hi (p9 (λ_=>True) w1 x G a2 c1 c2):=⟨h1,h2,ak⟩;obtain⟨ar,au⟩:=a' (b' u af.o);obtain⟨av,aw⟩:=a' (b' u ae.o);clear h1 h2 z;go_wp2_with fail;refine UR (EV S (λ_=>True) _ D s ma ca ra mc cc rc (ai.o.c' u) x G a2 c1 c2 (aj.o.c' Y) al ao) λw2 hb2=> ?_;generalize lU D s x=r at*;go_wp2;go_ret;exact⟨g8 y.o.symm,d' V.o (d' u hb2)⟩
theorem BD (S':UO)(w:World)(D:Nat)(bl bu qu iz win fin work:Int)(t:jO)(bd:Int)(j sb u:UP)(y z G:Nat)(ae:vn (λ_=>True) w (mO D t bd) j sb u y z G)(pa:UP)(pc:Nat)(proof:List Int)(ab:hD.rel S' w [.slice pa proof.length pc] proof)(ad:proof.length<=1000000)(V:1<=D)(Y:D<=12):
 Calls prog 87 #[.agg ri,.agg (qs 2 D bl bu qu iz win fin work),.agg #[UZ D,t.g5,.slice j t.marks.length y,.slice sb t.outs.length z,.slice u t.outs.length G,t.iK,t.wd,t.jn,t.acc,bd],.slice pa proof.length pc] w (Rt w (.bool (p8 D (mO D t bd) proof))):=by
 have h:=y7 (λ_=>True) S' w D bl bu qu iz win fin work (mO D t bd) j sb u y z G ae pa pc proof ab ad V Y;have K:(mO D t bd).iJ.length=t.outs.length:=by simp [mO]
 have U:(mO D t bd).li.length=t.outs.length:=nA _ _;unfold qr at h;rw [K,U]at h;exact h
theorem Dm {m d bl bu qu iz win fin work:Int}(h:jK m d bl bu qu iz win fin work≠0):jK m d bl bu qu iz win fin work=1:=by
 unfold jK at*
 split at h
 ·exact absurd rfl h
 ·rename_i j;rw [g3 j]
abbrev J7 (P A X:Array Value)(b:Nat)(w1 w':World):Prop:=BW w1 w'/\(∀o,w'.cell? ⟨b,o,none⟩=P[o]?)/\(∀o,w'.cell? ⟨b+1,o,none⟩=A[o]?)/\(∀o,w'.cell? ⟨b+2,o,none⟩=X[o]?)
theorem J7.of {P A X:Array Value}{b:Nat}{w1 w':World}(u:w1.heap[b]? =some (.cells P 36 (0,0)))(h:w1.heap[b+1]? =some (.cells A 26 (0,0)))(h2:w1.heap[b+2]? =some (.cells X 87 (0,0)))(j:BW w1 w'):J7 P A X b w1 w':=
 ⟨j,(a' (b' j u)).1,(a' (b' j h)).1,(a' (b' j h2)).1⟩
theorem J7.drew {P A X:Array Value}{b:Nat}{w1 w':World}(h:J7 P A X b w1 w'):J7 P A X b w1 w'.drew:=⟨h.1.drew,h.2.1,h.2.2.1,h.2.2.2⟩
theorem JQ (t:jO):wm t<18446744069414584321:=(nX _ _).2
theorem Dw (S:UO)(w:World)(d bl bu qu iz win fin work:Int)(t:jO)(ma oa pa:UP)(mc oc pc:Nat)(h:ks S w t ma oa pa mc oc pc)(ax:t.proof.length<=1000000):
 Calls prog 40 #[.agg ri,.agg (qs 2 d bl bu qu iz win fin work),.agg (jQ t ma mc oa oc pa pc)] w (Rt w (UZ (kF d bl bu qu iz win fin work t))):=by
 have ad:=(hd (hd (jc w (.cells ri 36)) (.cells (qs 2 d bl bu qu iz win fin work) 26)) (.cells (jQ t ma mc oa oc pa pc) 87));have ah:=Hd (lb w (.cells ri 36) (.cells (qs 2 d bl bu qu iz win fin work) 26) (.cells (jQ t ma mc oa oc pa pc) 87)).2.2;have ai:=Hd (lb w (.cells ri 36) (.cells (qs 2 d bl bu qu iz win fin work) 26) (.cells (jQ t ma mc oa oc pa pc) 87)).2.1;have aj:=Hd (lb w (.cells ri 36) (.cells (qs 2 d bl bu qu iz win fin work) 26) (.cells (jQ t ma mc oa oc pa pc) 87)).1;obtain⟨V,H⟩:=ik ad (h.c' ad);have G:Hi (kF d bl bu qu iz win fin work t=if jK 2 d bl bu qu iz win fin work=0 then (if hF t=0 then (if p8 d.toNat (mO d.toNat t 0) t.proof=true then 0 else 10)else hF t)else jK 2 d bl bu qu iz win fin work):=rfl;clear ad h;go_in;go_wp2_with fail;generalize ((w.alloc (.cells ri 36)).alloc (.cells (qs 2 d bl bu qu iz win fin work) 26)).alloc (.cells (jQ t ma mc oa oc pa pc) 87)=W at*
 refine UR (rL 2 d bl bu qu iz win fin work W) λw1 hb1=> ?_;by_cases hr:jK 2 d bl bu qu iz win fin work=0
 ·obtain⟨d0,d1⟩:=uN hr
  have z:Hi (kF d bl bu qu iz win fin work t=if hF t=0 then (if p8 d.toNat (mO d.toNat t 0) t.proof=true then 0 else 10)else hF t):=Hd (by rw [G.o,g7 hr]);rw [hr];clear hr G;obtain⟨D,av⟩:=lv (show 0<=d by omega);subst av;rw [jJ]at z;obtain⟨aC,aD⟩:=a' (b' hb1 ai.o);obtain⟨aE,aF⟩:=a' (b' hb1 aj.o);obtain⟨aG,af⟩:=a' (b' hb1 ah.o);go_wp2_with fail;refine UR (mw S w1 t ma oa pa mc oc pc (H.o.c' hb1)) λae hb3=> ?_;have y:=d' hb1 hb3;by_cases j:hF t=0
  ·have au:=Hd j
   have al:Hi (kF D bl bu qu iz win fin work t=if p8 D (mO D t 0) t.proof=true then 0 else 10):=Hd (by rw [z.o,g7 j]);rw [j];clear j z aC aD aE aF aG af;obtain⟨ab,K,U,ag⟩:=oX (b' y ah.o) (b' y ai.o) (b' y aj.o) (H.o.c' y);go_wp2_with fail
   go_region_held3 (λw'=>BW ae w'/\(∀o,w'.cell? ⟨w.heap.size,o,none⟩=(ri:Array Value)[o]?)/\(∀o,w'.cell? ⟨w.heap.size+1,o,none⟩=((qs 2 D bl bu qu iz win fin work):Array Value)[o]?)/\(∀o,w'.cell? ⟨w.heap.size+2,o,none⟩=((jQ t ma mc oa oc pa pc):Array Value)[o]?))
    (first
      |with_reducible exact J7.drew (J7.of ab.o K.o U.o (g' _ _))
      |with_reducible exact Y.o
      |with_reducible exact ak.o)
    (first
      |(go_at_call 88;refine(y8 S _ t ma oa pa mc oc pc (ag.o.c' (‹BW ae _/\_›).1) au.o D UN).mono ?_;rintro e aI⟨sb,ay,az,aA,rfl,aq,aw⟩
        have ar:=Hd aq;have Y:=Hd (J7.of ab.o K.o U.o (d' (‹BW ae _/\_›).1 aw));clear aq)
      |(go_at_call 87;refine UR (BD S _ D bl bu qu iz win fin work t (wm t) ma sb ay mc az aA ar.o pa pc t.proof (hD.c' ag.o.proof Y.o.1) ax UN UN) λaJ hb5=> ?_
        have ak:=Hd (J7.of ab.o K.o U.o (d' Y.o.1 hb5));rw [AN D t (wm t) (JQ t)]))
   have ap:=d' V.o (d' y ak.o.1)
   cases ao:p8 D (mO D t 0) t.proof with
   |true=>
    have u:Hi (kF D bl bu qu iz win fin work t=0):=Hd (by rw [al.o,ao];rfl);go_wp2;go_ret;exact⟨g2 u.o.symm,ap⟩
   |false=>
    have u:Hi (kF D bl bu qu iz win fin work t=10):=Hd (by rw [al.o,ao];rfl);go_wp2;go_ret;exact⟨g2 u.o.symm,ap⟩
  ·have u:Hi (kF D bl bu qu iz win fin work t=hF t):=by show _=_;rw [z.o,g3 j]
   have af:(hF t==0)=false:=(by rw [je];exact j);have aH:(hF t != 0)=true:=(by rw [iB];exact j);clear j z;generalize hF t=r at*;go_wp2;go_ret;exact⟨g2 u.o.symm,d' V.o y⟩
 ·have u:Hi (kF d bl bu qu iz win fin work t=1):=by show _=_;rw [G.o,g3 hr,Dm hr]
  have af:(jK 2 d bl bu qu iz win fin work==0)=false:=(by rw [je];exact hr);have aH:(jK 2 d bl bu qu iz win fin work != 0)=true:=(by rw [iB];exact hr);clear hr G;generalize jK 2 d bl bu qu iz win fin work=r at*;go_wp2;go_ret;exact⟨g2 u.o.symm,d' V.o hb1⟩
end Go.Proofs.YtjdiofjjoefnhaaGreatDoor
