/- The state of a chain of the program: perform. -/
import Derived.Test.YtjdiofjjoefnhaaGreatDoorMPoA
set_option maxRecDepth 100000
set_option maxHeartbeats 4000000
namespace Go.Proofs.YtjdiofjjoefnhaaGreatDoor
open Tryz Go.ChangeShapes Go.WideShapes Go.ChangeAt Go.RowKit Go.Sort
abbrev sf (s:j8)(t:jO)(k:Nat):j8:=⟨nT s.tree ((jb t).take k),s.leaves++(jb t).take k,mQ s.marks t.marks,s.book,s.hidden,s.roots,s.past⟩
def LU (p q:Nat)(I:UO)(v:p2)(y:UP)(w:World)(r:i4)(s0 s':j8)(u:List Int)(ta ba:UP)(tc bc:Nat)(w':World):Prop:=
 ∃(I':UO) (v':p2) (j:UP) (z:Nat),vQ p q I' w' r s0 s' u v' ta j ba tc z bc/\kq p q I v y w I' v' j w'
theorem DI (p q:Nat)(I:UO)(w:World)(r:i4)(s0 s:j8)(m:List Int)(v:p2)(ta af ba:UP)(tc dd bc:Nat)(h:vQ p q I w r s0 s m v ta af ba tc dd bc)(N:Nat)(ok:nm r s N)(dQ:N<=90000)(dR:m.length<=1000)(S:UO)(t:jO)(ma oa pa:UP)(mc oc pc:Nat)(ht:ks S w t ma oa pa mc oc pc)(cS: ∀k,S k-> ¬iw p v k/\k≠q/\iT af≠some k)(bF:h7 r s t=0):
 Calls prog 123 #[.pointer (some ⟨p,0,none⟩),.agg (jQ t ma mc oa oc pa pc),.pointer (some ⟨q,0,none⟩)] w λe w'=>e= .returned (UZ (jA s t))/\LU p q I v af w r s0 (kD s t) (m++t.marks) ta ba tc bc w':=by
 have bD:=jc w (.cells (jQ t ma mc oa oc pa pc) 87);have a2:=Hd (gY w (.cells (jQ t ma mc oa oc pa pc) 87));obtain⟨bY,aP⟩:=ik (h.c' bD) (ht.c' bD);have cB:Hi (kq p q I v af w I v af (w.alloc (.cells (jQ t ma mc oa oc pa pc) 87))):=kq.below bD;have bb:Hi (¬iw p v w.heap.size/\w.heap.size≠q/\iT af≠some w.heap.size):=by
  refine⟨λbv=> ?_,λe=> ?_,λe=> ?_⟩
  ·have:=h.at'.ki _ bv;omega
  ·have:=ii h.Gw;omega
  ·obtain⟨cur,bF⟩:=kU h.own e;have:=ii bF;omega
 obtain⟨aq,bU⟩:=ik ok cS;obtain⟨bH,bj,cT,cZ⟩:=lQ bF;obtain⟨dS,c3⟩:=na (mv bH).1;have dT:t.outs.length<=4:=(ke bH).2.1;obtain⟨dz,cq,dm,cv⟩:=oX bH (H1 bj c3) cT cZ;clear bD h ht ok cS bj c3 cT bH cZ bF;go_in;go_upto_region 1 with(fail);generalize w.alloc (.cells (jQ t ma mc oa oc pa pc) 87)=W at*;have ak:=g0 a2.o;have ag:=g0 bY.o.at'.cell;simp only [iL]at ag;refine hI 6 UQ UQ ?_;simp only [Tr,U6,Ty,Tg]
 repeat (first|go_big_quiet_step (fail)|quiet_step (fail))
 refine lz ?_;intro wq bE;clear ak ag;obtain⟨bB,cJ⟩:=ik (bY.o.c' bE) (aP.o.c' bE);have cG:Hi (kq p q I v af W I v af wq):=kq.below bE;clear bE;go_wp2_with fail;refine(La v.sb v.mb _ wq s.marks bB.o.at'.data.marks ma mc t.marks cJ.o.marks UN (by have:=aq.o.marks;omega) (λhh=>(bU.o _ hh).1 (.inr (.inr (.inl rfl))))).mono ?_;rintro e w2⟨rfl,cg,cd⟩;have a3:B6 s.marks t.marks=mQ s.marks t.marks:=g7 cq.o;rw [a3]at cg;rw [cq.o];obtain⟨da,c7⟩:=bB.o.step (bB.o.at'.xn cg cd) (cd.mono λk _ bv e=>bv (.inr (.inr (.inl e)))) (λ_ h=> .inl h) (λ_ h=>h) (λ_ h=> .inl h);obtain⟨aG,bg⟩:=ik (cG.o.trans c7) da;obtain⟨cH,cK⟩:=ik (aP.o.keep (aG.o.kept.mono λk _ ao=>bU.o k ao)) (hE aG.o.kept a2.o bb.o);clear a3 cg cd da c7 bB cJ cG bY;have c5:=bg.o.own;obtain⟨ak,av⟩:=a' cK.o;obtain⟨ag,a0⟩:=a' bg.o.Gw;have cI:=Hd cH.o.marks;go_upto_region 4 with(fail);go_cut [7]from 8 (λdW wc=> ∃ae au,Hi (vQ p q I wc r s0 (sf s t 0) (m++t.marks) v ta ae ba tc au bc)/\Hi (kq p q I v af W I v ae wc))
 case first=>
  go_region_law (first
   |(refine iV (r:=ib) (base:=0) (v:= .slice af m.length dd) (u:= .slice ma t.marks.length mc) (S:=λ_=>False) rfl _ _ rfl iX rfl rfl (Own.c' c5 (g' _ _).drew) (Src.plain (Plain.int .u64) (Src.of_slice (gZ.c' cI.o (g' _ _).drew))) (λ_ _ h=>h.elim) (λ_ _ h=>h) (by unfold maxLen;omega) UN (iy _) ?_
     intro dN V a5 bt bk;obtain⟨ae,au,rfl, -, -⟩:=iW a5;have bQ:=Hd a5;have a4:Kept (λk=>iT af≠some k) w2 V:=(Kept.of_below ((Br w2).drew)).trans bt λk _ h=>(by rw [lM];exact h);have cY:(Value.slice ae (m++t.marks).length au).ownBlock=iT af\/(Value.slice ae (m++t.marks).length au).ownBlock=some w2.heap.size:=(by rw [lM af]at bk;exact bk);obtain⟨bz,bO⟩:=ik a4 cY;obtain⟨dk,co⟩:=a' (hE a4 bg.o.Gw bg.o.Ij);clear a5 bt bk a4 cY))
  all_goals
   obtain⟨cM,cO,cQ,a7,a6⟩:=bg.o.xn bQ.o bz.o bO.o;simp only [mJ,Ux]at cQ;obtain⟨rfl,rfl⟩:=cQ;rw [U3]at a7 a6;obtain⟨dB,bW⟩:=ik a7 (aG.o.trans a6);clear a7 a6;go_wp2;go_meet
   case rel=>
    refine⟨ae,au,?_,bW⟩;have bC:sf s t 0= { s with marks:=mQ s.marks t.marks }:=(by show j8.mk _ _ _ _ _ _ _=_;simp [nT]);rw [bC];exact dB
 case rest=>
  obtain⟨ae,au,dA,cC⟩:=hcut;clear ak av ag a0 cI c5 cK cH bg aG;have dD:=Hd (hE cC.o.kept a2.o bb.o);obtain⟨ak,av⟩:=a' dD.o;go_wp2;go_loopw [39] (λcn wr=> ∃(k:Nat) (I':UO) (v':p2),k<=t.outs.length/\cn= UZ k/\Hi (vQ p q I' wr r s0 (sf s t k) (m++t.marks) v' ta ae ba tc au bc)/\Hi (kq p q I v af W I' v' ae wr)) (λcn _=>t.outs.length-(intOf cn).toNat)
  case atStart=>exact⟨0,I,v,iy _,rfl,dA,cC⟩
  case round=>
   obtain⟨k,I',v',ao,rfl,ai,aO⟩:=hrel;by_cases hlt:k<t.outs.length
   ·have ab:=Hd (hE aO.o.kept a2.o bb.o)
    have bX:=Hd (aP.o.keep (aO.o.kept.mono λk _ ao=>bU.o k ao));obtain⟨Y,off,ca,cc,dJ, -,dH,dK,dU,dV, -,c0,c1,c2,dF⟩:=mp bX.o.outs k hlt;subst dJ;obtain⟨D,bq⟩:=iF (r.depth.toNat);have dP:=Hd bq;have b7:jb t=t.outs.map (·.g6):=rfl;have bi:(jb t).length=t.outs.length:=(by rw [b7,TC]);have b6: ∀x∈jb t,0<=x/\x<18446744069414584321:=by
     intro x cl;obtain⟨o,c4,rfl⟩:=List.mem_map.1 cl;refine⟨?_,pY dz.o o c4⟩;obtain⟨j,dI,rfl⟩:=TH c4;obtain⟨_,_,_,_,_,_,_,dL,_⟩:=mp bX.o.outs j dI;exact(iE dL).1
    have bG:(jb t)[k]' UN=t.outs[k].g6:=(by simp [b7]);have dl:Hi (0<=t.outs[k].g6/\t.outs[k].g6<18446744069414584321):=(by rw [<-bG];exact b6 _ (z3 _));have b1:=vJ ((jb t).take k) s.tree (bq▸aq.o.tree) (by have h1:=aq.o.count;have h2:=cv.o;rw [bq]at h2;rw [Tq,bi];omega) λx cl=>b6 x (TV cl);have cu:Hi (tT (sf s t k).tree D/\(sf s t k).tree.count<2^D):=⟨b1.1,by show(nT _ _).count<_;rw [b1.2];have h1:=aq.o.count;have h2:=cv.o;rw [bq]at h2;rw [Tq,bi];omega⟩;have bP:Hi (sf s t (k+1)=⟨uj (sf s t k).tree t.outs[k].g6,(sf s t k).leaves++ [t.outs[k].g6],(sf s t k).marks,(sf s t k).book,(sf s t k).hidden,(sf s t k).roots,(sf s t k).past⟩):=by
     show j8.mk _ _ _ _ _ _ _=j8.mk _ _ _ _ _ _ _;rw [DZ s.tree (jb t) k UN,bG,z4 (show k<(jb t).length by omega),bG,Tt]
    have cE:Hi ((sf s t k).leaves.length<=5000):=by
     show(s.leaves++(jb t).take k).length<=_;have h1:=aq.o.count;have h2:=aq.o.tree.c1;obtain⟨-, -,dG⟩:=pL ⟨r.depth.toNat,by have:=aq.o.tree.d1;omega⟩;simp only at dG;rw [U3,Tq];omega
    generalize sf s t k=aI at*;generalize t.outs[k]=z at*;clear bG b6 bi b7 b1 bq;obtain⟨ak,av⟩:=a' ab.o;go_upto_region 8 with(fail);have b4:=jc wr (.cells #[z.g6,z.p0,z.p1,.slice ca z.ha.length cc] 156);obtain⟨a1,aF,bV⟩:=kT (gY wr (.cells #[z.g6,z.p0,z.p1,.slice ca z.ha.length cc] 156)) (ai.o.c' b4) (aO.o.trans (kq.below b4));clear b4 ak av c0 c1 c2 dF bX ab ai aO dH;generalize wr.heap.size=B1 at*;generalize wr.alloc (.cells #[z.g6,z.p0,z.p1,.slice ca z.ha.length cc] 156)=w1 at*;obtain⟨fr,bj⟩:=iF (uj aI.tree z.g6);have dn:=Hd bj;rw [bj]at bP;clear bj;go_cut [10,11]from 43 to 52 (λv10 dM wc=> ∃b a c,v10= .pointer (some ⟨b,0,none⟩)/\dM= I0/\Hi (wc.heap[b]? =some (.cells #[UZ fr.depth,UZ fr.count,.slice a fr.left.length c] 104 (0,0)))/\Hi (gZ.rel (λk=>w1.heap.size<=k) wc [.slice a fr.left.length c] fr.left)/\Hi (BW w1 wc))
    case first=>
     go_region_held3 (λw'=>BW w1 w'/\(∀o,w'.cell? ⟨p,o,none⟩=(iL r aI v')[o]?)/\(∀o,w'.cell? ⟨B1,o,none⟩=(#[U2 z.g6,U2 z.p0,U2 z.p1,.slice ca z.ha.length cc]:Array Value)[o]?))
      (first
        |with_reducible exact kb.drew (kb.of aF.o.at'.cell a1.o (g' _ _))
        |with_reducible exact U.o
        |with_reducible exact kb.of aF.o.at'.cell a1.o (hd U.o.1 _)
        |exact kb.of aF.o.at'.cell a1.o (m4 U.o.1 (g9 _) [UZ fr.depth,UZ fr.count,.slice G fr.left.length K] 0 U.o.1.size)
        |with_reducible exact kb.drew (kb.of aF.o.at'.cell a1.o (hd (g' _ _) _)))
      (first
        |(go_at_call 183;have aM:=Hd (‹BW w1 _/\_› :kb (iL r aI v') #[z.g6,z.p0,z.p1,.slice ca z.ha.length cc] p B1 w1 _)
          refine(BK I' _ aI.tree D cu.o.1 cu.o.2 v'.ta v'.tc (aF.o.c' aM.o.1).at'.data.tree z.g6 dl.o).mono ?_;rw [dn.o];rintro e V⟨G,K,rfl,aY,hb5⟩;obtain⟨U,aN⟩:=ik (kb.of aF.o.at'.cell a1.o (d' aM.o.1 hb5)) aY;clear aY
          first
           |(have aD:V.heap[w1.heap.size]? =_:=b' hb5 (gY w1 (.cells #[I0,I0,S0] 104));obtain⟨k0,k1⟩:=a' aD;have HQ:=Hd aD;clear aD)
           |skip))
     ·have vP:=hd U.o.1 (.cells #[UZ fr.depth,UZ fr.count,.slice G fr.left.length K] 104)
      have aw:=Hd (gY V (.cells #[UZ fr.depth,UZ fr.count,.slice G fr.left.length K] 104));have aA:=Hd (gZ.mono (gZ.c' aN.o (hd (g' _ _) (.cells #[UZ fr.depth,UZ fr.count,.slice G fr.left.length K] 104))) (S':=λk=>w1.heap.size<=k) λk _ h=>h);have ax:=Hd vP;clear vP;go_wp2;go_meet
      case rel=>exact⟨V.heap.size,G,K,rfl,rfl,aw,aA,ax⟩
     ·have cX:=i2 V (q:=w1.heap.size) (S:=λk=>k≠w1.heap.size) (λh=>h rfl) [UZ fr.depth,UZ fr.count,.slice G fr.left.length K] 0
      have vP:=m4 U.o.1 (q:=w1.heap.size) (g9 _) [UZ fr.depth,UZ fr.count,.slice G fr.left.length K] 0 U.o.1.size;have bZ:=j3 (old:= [I0,I0,S0]) HQ.o [UZ fr.depth,UZ fr.count,.slice G fr.left.length K] rfl;have b0:=gZ.mono (gZ.keep aN.o (cX.mono λk _ h=>by have aC:(w1.alloc (.cells #[I0,I0,S0] 104)).heap.size<=k:=h;rw [U4]at aC;show k≠_;omega)) (S':=λk=>w1.heap.size<=k) λk _ h=>(by have aC:(w1.alloc (.cells #[I0,I0,S0] 104)).heap.size<=k:=h;rw [U4]at aC;show _<=k;omega);obtain⟨bJ,aL⟩: ∃bJ,bJ=V.setCells w1.heap.size 0 [UZ fr.depth,UZ fr.count,.slice G fr.left.length K]:=⟨_,rfl⟩;rw [<-aL]at vP bZ b0;simp only [World.setCells,Nat.reduceAdd,nC]at aL;obtain⟨dC,aw,aA,ax⟩:=oX aL bZ b0 vP;clear aL bZ b0 vP cX;go_wp2_with fail;rw [<-dC.o];go_meet
      case rel=>exact⟨w1.heap.size,G,K,rfl,rfl,aw,aA,ax⟩
    case rest=>
     obtain⟨cN,aQ,aT,rfl,rfl,a9,bf,ap⟩:=hcut;obtain⟨az,dy,bR⟩:=kT (aF.o.c' ap.o) (bV.o.trans (kq.below ap.o)) (b' ap.o a1.o);obtain⟨k0,k1⟩:=a' a9.o;obtain⟨ag,a0⟩:=a' az.o.at'.cell;simp only [iL]at ag;go_upto_region 12 with(fail);have aW:=az.o.at'.grow (B:=w1.heap.size) aF.o.at'.ki;have aZ:=gZ.mono bf.o (S':=λk=>I' k\/(w1.heap.size<=k/\k<wc.heap.size)) λk ao h=> .inr ⟨h,ao⟩;have aU:=aW.FZ aZ
     have aX:Kept (λk=> ¬iw p v' k) w1 (wc.setCells p 9 [UZ fr.depth,UZ fr.count,.slice aQ fr.left.length aT]):=
      (Kept.of_below ap.o).trans (i2 wc (q:=p) (S:=λk=> ¬iw p v' k) (λh=>h (.inl rfl)) _ 9) λ_ _ h=>h
     obtain⟨aK,aj⟩:=aF.o.step aU aX (λ_ h=> .inl h) (λ_ h=> .inl h) (λk h=>h.elim .inl λh=> .inr h.1);have cj:(wc.setCells p 9 [UZ fr.depth,UZ fr.count,.slice aQ fr.left.length aT]).heap[B1]? =_:=hE (i2 wc (q:=p) (S:=λk=>k≠p) (λh=>h rfl) _ 9) bR.o (λe=>by have h1:=bR.o;have h2:=az.o.at'.cell;rw [e,h2]at h1;simp at h1);obtain⟨aE,aL⟩: ∃bJ,bJ=wc.setCells p 9 [UZ fr.depth,UZ fr.count,.slice aQ fr.left.length aT]:=⟨_,rfl⟩;rw [<-aL]at aK aj cj;simp only [World.setCells,Nat.reduceAdd]at aL;rw [<-aL];obtain⟨al,bp,cw⟩:=kT aK (bV.o.trans aj) cj;clear aL aW aZ aU aX aK aj cj k0 k1 ag a0 az dy bR a9 bf ap aF bV a1;generalize (λk=>I' k\/(w1.heap.size<=k/\k<wc.heap.size))=cL at*
     generalize ({ v' with ta:=aQ,tc:=aT }:p2)=a8 at*
     obtain⟨ah,aj⟩: ∃ah:j8,(⟨fr,aI.leaves,aI.marks,aI.book,aI.hidden,aI.roots,aI.past⟩:j8)=ah:=⟨_,rfl⟩;have dq:Hi (sf s t (k+1)=⟨ah.tree,ah.leaves++ [z.g6],ah.marks,ah.book,ah.hidden,ah.roots,ah.past⟩):=(by rw [<-aj];exact bP);have cF:Hi (ah.leaves.length<=5000):=(by rw [<-aj];exact cE);have cy:Hi (vQ p q cL aE r s0 ah (m++t.marks) a8 ta ae ba tc au bc):=(by rw [<-aj];exact al);clear al aj bP cE;have al:=cy;clear cy;have aV:BW aE aE.drew:=(g' _ _).drew;obtain⟨cA,dr⟩:=ik (al.o.c' aV) (b' aV cw.o);have dp:=Hd cA.o.at'.data.leaves;have c9:Src ib (λ_=>False) (aE.drew.alloc (.cells #[z.g6] 24)) (.slice (some ⟨aE.drew.heap.size,0,none⟩) 1 1) [z.g6]:=Src.one (r:=ib) (y:=z.g6) ⟨rfl,dK⟩ (jx.new aE.drew [z.g6] 24);have dx:=Hd c9;have bK:Hi (BW aE (aE.drew.alloc (.cells #[z.g6] 24))):=hd aV _;obtain⟨ag,a0⟩:=a' cA.o.at'.cell;have dj:=λo'=>(a' (iq (o':=o') al.o.at'.cell)).1;have dO:=λo'=>(a' (iq (o':=o') cw.o)).1;obtain⟨ak,av⟩:=a' dr.o;simp only [iL]at ag dj;clear c9 aV
     go_region_law (first
      |(refine iV (r:=ib) (base:=0) (v:= .slice a8.la ah.leaves.length a8.lc) (u:= .slice (some ⟨aE.drew.heap.size,0,none⟩) 1 1) (S:=λ_=>False) rfl _ _ rfl iX rfl rfl (Own.c' dp.o (hd (g' _ _) (.cells #[z.g6] 24))) dx.o (λ_ _ ao=>ao.elim) (λ_ _ h=>h) (by have:=cF.o;unfold maxLen;simp;omega) (by have:=cF.o;simp;omega) (iy _) ?_
        intro dN V a5 bt bk;obtain⟨cM,cO,rfl, -, -⟩:=iW a5;have bQ:=Hd a5;have a4:Kept (λk=>iT a8.la≠some k) (aE.drew.alloc (.cells #[z.g6] 24)) V:=bt.mono λk _ h=>(by rw [lM];exact h);obtain⟨bz,bO⟩:=ik a4 bk;obtain⟨dk,co⟩:=a' (hE a4 (b' bK.o al.o.at'.cell) al.o.at'.zX);clear a5 bt bk a4))
     all_goals
      have cz:=al.o.c' bK.o;have ce:=bO.o;rw [lM a8.la]at ce;obtain⟨G,K,cR,c6,br⟩:=cz.at'.Jt bQ.o bz.o ce;simp only [mJ,Ux]at cR;obtain⟨rfl,rfl⟩:=cR
      have cW:Kept (λk=> ¬iw p a8 k) aE (V.setCell ⟨p,12,none⟩ (.slice cM (ah.leaves++ [z.g6]).length cO)):=
       ((Kept.of_below bK.o).trans (bz.o.mono (S':=λk=> ¬iw p a8 k) λk _ h e=>h (.inr (.inr (.inr (.inl e))))) λ_ _ h=>h).trans (h9 V p 12 _) λk _ h e=>h (.inl e)
      obtain⟨a7,a6⟩:=al.o.step br cW (λk bv=>by
       rcases bv with e|e|e|e|e|e
       ·exact .inl (.inl e)
       ·exact .inl (.inr (.inl e))
       ·exact .inl (.inr (.inr (.inl e)))
       ·rcases c6 k e with h1|h1
        ·exact .inl (.inr (.inr (.inr (.inl h1))))
        ·rw [U4]at h1;exact .inr (by rw [h1];exact o9 _)
       ·exact .inl (.inr (.inr (.inr (.inr (.inl e)))))
       ·exact .inl (.inr (.inr (.inr (.inr (.inr e)))))) (λ_ h=>h) (λ_ h=> .inl h)
      rw [show(ah.leaves++ [z.g6]).length=ah.leaves.length+1 by simp]at a7 a6;obtain⟨dt,bW⟩:=ik a7 (bp.o.trans a6);clear a7 a6 cW br c6 ce cz ak av ag a0 dO dj dk co;go_wp2;go_roundw
      case rel=>exact⟨k+1,cL,_,UN,by go_num,by rw [dq.o];exact dt,bW⟩
      case measure=>exact UY
   ·obtain rfl:k=t.outs.length:=UN
    have bi:(jb t).length=t.outs.length:=US;obtain⟨aJ,ck⟩:=iF (nT s.tree (jb t));obtain⟨aH,cf⟩:=iF (s.leaves++jb t);obtain⟨mk,ch⟩:=iF (mQ s.marks t.marks);have bC:sf s t t.outs.length=⟨aJ,aH,mk,s.book,s.hidden,s.roots,s.past⟩:=by
     show j8.mk _ _ _ _ _ _ _=_;rw [<-bi,Sw,ck,cf,ch]
    have bo:Hi (kD s t=⟨aJ,aH,mk,if 0<t.wd/\jA s t=0 then jH (book1 s t) t.acc t.wd else book1 s t,if jA s t=0 then jh (jh (jh (s.hidden+t.iK)-t.wd)-t.jn)else s.hidden,s.roots,s.past⟩):=(by rw [<-ck,<-cf,<-ch];rfl);rw [bC]at ai;clear ck cf ch bC bi hlt ao ak av;have ab:=Hd (hE aO.o.kept a2.o bb.o);have cp:Hi ((book1 s t).length<=100000/\vd (book1 s t)):=by
     have:=aq.o.book;unfold book1;show _/\_;split
     ·exact⟨by have:=ub s.book t.acc t.iK t.e';omega,vH aq.o.up _ _ _⟩
     ·exact⟨UN,aq.o.up⟩
    have be:Hi (jA s t=if 0<t.wd then kV (book1 s t) t.acc t.wd else 0):=rfl;have bx:Hi (book1 s t=if 0<t.iK then lx s.book t.acc t.iK t.e' else s.book):=rfl;generalize book1 s t=Y at*;obtain⟨ak,av⟩:=a' ab.o;go_upto_if 74 with(fail);go_cut [12,13]from 16 (λde df wc=> ∃(I':UO) (v':p2),Hi (vQ p q I' wc r s0 ⟨aJ,aH,mk,Y,s.hidden,s.roots,s.past⟩ (m++t.marks) v' ta ae ba tc au bc)/\Hi (kq p q I v af W I' v' ae wc))
    case first=>
     by_cases b8:0<t.iK
     ·have bL:Hi (lx s.book t.acc t.iK t.e'=Y):=by show _=_;rw [bx.o,g7 b8]
      have bM:=Hd (dm.o b8);clear bx be;go_wp2_with fail;go_cut [12,13]from 16 (λde df wc=> ∃b a c,de= .pointer (some ⟨b,0,none⟩)/\df= I0/\Hi (wc.heap[b]? =some (.cells #[.slice a Y.length c] 108 (0,0)))/\Hi (ih.rel (λk=>wr.heap.size<=k) wc [.slice a Y.length c] Y)/\Hi (BW wr wc))
      case first=>
       go_region_held3 (λw'=>BW wr w'/\(∀o,w'.cell? ⟨p,o,none⟩=(iL r ⟨aJ,aH,mk,s.book,s.hidden,s.roots,s.past⟩ v')[o]?)/\(∀o,w'.cell? ⟨w.heap.size,o,none⟩=((jQ t ma mc oa oc pa pc):Array Value)[o]?))
        (first
          |with_reducible exact kb.drew (kb.of ai.o.at'.cell ab.o (g' _ _))
          |with_reducible exact U.o
          |with_reducible exact kb.of ai.o.at'.cell ab.o (hd U.o.1 _)
          |exact kb.of ai.o.at'.cell ab.o (j4 U.o.1 (g9 _) _ U.o.1.size)
          |with_reducible exact kb.drew (kb.of ai.o.at'.cell ab.o (hd (g' _ _) _)))
        (first
          |(go_at_call 181;have aM:=Hd (‹BW wr _/\_› :kb (iL r ⟨aJ,aH,mk,s.book,s.hidden,s.roots,s.past⟩ v') (jQ t ma mc oa oc pa pc) p w.heap.size wr _)
            refine(Ay I' _ v'.ba v'.bc s.book (ai.o.c' aM.o.1).at'.data.book (by have:=aq.o.book;omega) aq.o.up t.acc t.iK t.e' aP.o.acc aP.o.iK aP.o.e').mono ?_;rw [bL.o,bM.o];rintro e V⟨G,K,rfl,aY,hb5⟩;obtain⟨U,aN⟩:=ik (kb.of ai.o.at'.cell ab.o (d' aM.o.1 hb5)) aY;clear aY
            first
             |(have aD:V.heap[wr.heap.size]? =_:=b' hb5 (gY wr (.cells #[S0] 108));obtain⟨k0,k1⟩:=a' aD;have HQ:=Hd aD;clear aD)
             |skip))
       ·have aw:=Hd (gY V (.cells #[.slice G Y.length K] 108))
        have aA:=Hd ((ih).mono ((ih).c' aN.o (hd (g' _ _) (.cells #[.slice G Y.length K] 108))) (S':=λk=>wr.heap.size<=k) λk _ h=>h);have ax:=Hd (hd U.o.1 (.cells #[.slice G Y.length K] 108));go_wp2;go_meet
        case rel=>exact⟨V.heap.size,G,K,rfl,rfl,aw,aA,ax⟩
       ·have aw:Hi ((V.setCell ⟨wr.heap.size,0,none⟩ (.slice G Y.length K)).heap[wr.heap.size]? =some (.cells #[.slice G Y.length K] 108 (0,0))):=h6 HQ.o
        have aA:=Hd ((ih).mono ((ih).keep aN.o ((h9 V wr.heap.size 0 (.slice G Y.length K)).mono λk _ h=>by have aC:(wr.alloc (.cells #[S0] 108)).heap.size<=k:=h;rw [U4]at aC;show k≠_;omega)) (S':=λk=>wr.heap.size<=k) λk _ h=>by have aC:(wr.alloc (.cells #[S0] 108)).heap.size<=k:=h;rw [U4]at aC;show _<=k;omega);have ax:=Hd (j4 (i:=0) U.o.1 (q:=wr.heap.size) (g9 _) (.slice G Y.length K) U.o.1.size);go_wp2;go_meet
        case rel=>exact⟨wr.heap.size,G,K,rfl,rfl,aw,aA,ax⟩
      case rest=>
       obtain⟨cN,aQ,aT,rfl,rfl,a9,bf,ap⟩:=hcut;have az:=Hd (ai.o.c' ap.o);have aW:=az.o.at'.grow (B:=wr.heap.size) ai.o.at'.ki;have aZ:=(ih).mono bf.o (S':=λk=>I' k\/(wr.heap.size<=k/\k<wc.heap.size)) λk ao h=> .inr ⟨h,ao⟩;have aU:=aW.xj aZ
       have aX:Kept (λk=> ¬iw p v' k) wr (wc.setCell ⟨p,14,none⟩ (.slice aQ Y.length aT)):=
        (Kept.of_below ap.o).trans (h9 wc p 14 _) λk _ h e=>h (.inl e)
       obtain⟨aK,aj⟩:=ai.o.step aU aX (λ_ h=> .inl h) (λ_ h=> .inl h) (λk h=>h.elim .inl λh=> .inr h.1);obtain⟨al,bp⟩:=ik aK (aO.o.trans aj);obtain⟨k0,k1⟩:=a' a9.o;obtain⟨ag,a0⟩:=a' az.o.at'.cell;simp only [iL]at ag;clear aW aZ aU aX aK aj;go_wp2;go_meet
       case rel=>exact⟨_,_,al,bp⟩
     ·have a3:Y=s.book:=by rw [bx.o,g3 b8]
      go_wp2;go_meet
      case rel=>exact⟨I',v',by rw [a3];exact ai,aO⟩
    case rest=>
     obtain⟨I2,v2,ay,aG⟩:=hcut;clear ai aO ab ak av bx;have ab:=Hd (hE aG.o.kept a2.o bb.o);obtain⟨ak,av⟩:=a' ab.o
     rename World=>ad
     go_upto_if 98 with(fail);go_cut [14,15]from 16 (λdg dh wc=> ∃(I':UO) (v':p2),Hi (jA s t=0)/\Hi (vQ p q I' wc r s0 ⟨aJ,aH,mk,(kD s t).book,s.hidden,s.roots,s.past⟩ (m++t.marks) v' ta ae ba tc au bc)/\Hi (kq p q I v af W I' v' ae wc))
     case first=>
      by_cases bI:0<t.wd
      ·obtain⟨ar,b5⟩:=iF (jH Y t.acc t.wd)
       obtain⟨bh,b9⟩:=iF (kV Y t.acc t.wd);obtain⟨bL,bM⟩:=ik b5 b9;have bn:Hi (jA s t=bh):=Hd (by rw [be.o,g7 bI,b9]);have bT:Hi (bh=0->(kD s t).book=ar):=λh=>(by rw [bo.o];show(if _ then _ else _)=_;rw [g7 ⟨bI,by rw [bn.o];exact h⟩,b5]);clear b5 b9 be;go_wp2_with fail;go_cut [14,15]from 16 (λdg dh wc=> ∃b a c,dg= .pointer (some ⟨b,0,none⟩)/\dh= UZ bh/\Hi (wc.heap[b]? =some (.cells #[.slice a ar.length c] 108 (0,0)))/\Hi (ih.rel (λk=>ad.heap.size<=k) wc [.slice a ar.length c] ar)/\Hi (BW ad wc))
       case first=>
        go_region_held3 (λw'=>BW ad w'/\(∀o,w'.cell? ⟨p,o,none⟩=(iL r ⟨aJ,aH,mk,Y,s.hidden,s.roots,s.past⟩ v2)[o]?)/\(∀o,w'.cell? ⟨w.heap.size,o,none⟩=((jQ t ma mc oa oc pa pc):Array Value)[o]?))
         (first
           |with_reducible exact kb.drew (kb.of ay.o.at'.cell ab.o (g' _ _))
           |with_reducible exact U.o
           |with_reducible exact kb.of ay.o.at'.cell ab.o (hd U.o.1 _)
           |exact kb.of ay.o.at'.cell ab.o (j4 U.o.1 (g9 _) _ U.o.1.size)
           |with_reducible exact kb.drew (kb.of ay.o.at'.cell ab.o (hd (g' _ _) _)))
         (first
           |(go_at_call 124;have aM:=Hd (‹BW ad _/\_› :kb (iL r ⟨aJ,aH,mk,Y,s.hidden,s.roots,s.past⟩ v2) (jQ t ma mc oa oc pa pc) p w.heap.size ad _)
             refine(yT I2 _ v2.ba v2.bc Y (ay.o.c' aM.o.1).at'.data.book cp.o.1 cp.o.2 t.acc t.wd aP.o.acc aP.o.wd).mono ?_;rw [bL.o,bM.o];rintro e V⟨G,K,rfl,aY,hb5⟩;obtain⟨U,aN⟩:=ik (kb.of ay.o.at'.cell ab.o (d' aM.o.1 hb5)) aY;clear aY
             first
              |(have aD:V.heap[ad.heap.size]? =_:=b' hb5 (gY ad (.cells #[S0] 108));obtain⟨k0,k1⟩:=a' aD;have HQ:=Hd aD;clear aD)
              |skip))
        ·have aw:=Hd (gY V (.cells #[.slice G ar.length K] 108))
         have aA:=Hd ((ih).mono ((ih).c' aN.o (hd (g' _ _) (.cells #[.slice G ar.length K] 108))) (S':=λk=>ad.heap.size<=k) λk _ h=>h);have ax:=Hd (hd U.o.1 (.cells #[.slice G ar.length K] 108));go_wp2;go_meet
         case rel=>exact⟨V.heap.size,G,K,rfl,rfl,aw,aA,ax⟩
        ·have aw:Hi ((V.setCell ⟨ad.heap.size,0,none⟩ (.slice G ar.length K)).heap[ad.heap.size]? =some (.cells #[.slice G ar.length K] 108 (0,0))):=h6 HQ.o
         have aA:=Hd ((ih).mono ((ih).keep aN.o ((h9 V ad.heap.size 0 (.slice G ar.length K)).mono λk _ h=>by have aC:(ad.alloc (.cells #[S0] 108)).heap.size<=k:=h;rw [U4]at aC;show k≠_;omega)) (S':=λk=>ad.heap.size<=k) λk _ h=>by have aC:(ad.alloc (.cells #[S0] 108)).heap.size<=k:=h;rw [U4]at aC;show _<=k;omega);have ax:=Hd (j4 (i:=0) U.o.1 (q:=ad.heap.size) (g9 _) (.slice G ar.length K) U.o.1.size);go_wp2;go_meet
         case rel=>exact⟨ad.heap.size,G,K,rfl,rfl,aw,aA,ax⟩
       case rest=>
        obtain⟨cN,aQ,aT,rfl,rfl,a9,bf,ap⟩:=hcut;have az:=Hd (ay.o.c' ap.o);have aW:=az.o.at'.grow (B:=ad.heap.size) ay.o.at'.ki;have aZ:=(ih).mono bf.o (S':=λk=>I2 k\/(ad.heap.size<=k/\k<wc.heap.size)) λk ao h=> .inr ⟨h,ao⟩;have aU:=aW.xj aZ
        have aX:Kept (λk=> ¬iw p v2 k) ad (wc.setCell ⟨p,14,none⟩ (.slice aQ ar.length aT)):=
         (Kept.of_below ap.o).trans (h9 wc p 14 _) λk _ h e=>h (.inl e)
        obtain⟨aK,aj⟩:=ay.o.step aU aX (λ_ h=> .inl h) (λ_ h=> .inl h) (λk h=>h.elim .inl λh=> .inr h.1);obtain⟨al,bp⟩:=ik aK (aG.o.trans aj);obtain⟨k0,k1⟩:=a' a9.o;obtain⟨ag,a0⟩:=a' az.o.at'.cell;simp only [iL]at ag;clear aW aZ aU aX aK aj;by_cases bm:bh=0
        ·subst bm
         have du:=Hd (bT.o rfl);go_wp2;go_meet
         case rel=>exact⟨_,_,bn,by rw [du.o];exact al,bp⟩
        ·have co:(bh==0)=false:=by rw [je];exact bm
         have dX:(bh != 0)=true:=(by rw [iB];exact bm);have bN:Hi (kD s t=⟨aJ,aH,mk,Y,s.hidden,s.roots,s.past⟩):=by
          show _=_;rw [bo.o,g3 (λh=>bm (bn.o.symm.trans h.2)),g3 (λh=>bm (bn.o.symm.trans h))]
         have dw:=Hd (cB.o.trans (aG.o.trans (kq.below (p:=p) (q:=q) (I:=I2) (v:=v2) (ma:=ae) ap.o)));clear bm;go_wp2;go_ret;exact⟨g2 bn.o.symm,I2,v2,ae,au,by rw [bN.o];exact az.o,dw.o⟩
      ·have a3:jA s t=0:=by rw [be.o,g3 bI]
       have cP:(kD s t).book=Y:=(by rw [bo.o];show(if _ then _ else _)=_;rw [g3 λh=>bI h.1]);obtain⟨bA,bT⟩:=ik a3 cP;clear a3 cP be;go_wp2;go_meet
       case rel=>exact⟨I2,v2,bA,by rw [bT.o];exact ay,aG⟩
     case rest=>
      obtain⟨dE,di,bA,bS,cD⟩:=hcut;clear ay aG ab ak av be;have ab:=Hd (hE cD.o.kept a2.o bb.o)
      rename World=>bw
      have aV:BW bw bw.drew:=(g' _ _).drew;obtain⟨ak,av⟩:=a' ab.o;obtain⟨ag,a0⟩:=a' bS.o.at'.cell;simp only [iL]at ag;have cU:iZ (jh (jh (jh (s.hidden+t.iK)-t.wd)-t.jn)):=sA _;have br:=(bS.o.c' aV).at'.Ae (jh (jh (jh (s.hidden+t.iK)-t.wd)-t.jn)) cU;have cV:Kept (λk=> ¬iw p di k) bw (bw.drew.setCell ⟨p,15,none⟩ (U2 (jh (jh (jh (s.hidden+t.iK)-t.wd)-t.jn)))):=(Kept.of_below aV).trans (h9 bw.drew p 15 _) λk _ h e=>h (.inl e);obtain⟨db,c8⟩:=bS.o.step br cV (λ_ h=> .inl h) (λ_ h=>h) (λ_ h=> .inl h);obtain⟨ds,dv⟩:=ik db (cB.o.trans (cD.o.trans c8));have bN:Hi (kD s t=⟨aJ,aH,mk,(kD s t).book,jh (jh (jh (s.hidden+t.iK)-t.wd)-t.jn),s.roots,s.past⟩):=by
       show _=_
       conv=>lhs;rw [bo.o,g7 bA.o]
       rw [bo.o]
      clear aV cU br cV db c8;go_wp2;go_region;go_wp2;go_ret;rw [bA.o];exact⟨rfl,dE,di,ae,au,by rw [bN.o];exact ds.o,dv.o⟩
end Go.Proofs.YtjdiofjjoefnhaaGreatDoor
