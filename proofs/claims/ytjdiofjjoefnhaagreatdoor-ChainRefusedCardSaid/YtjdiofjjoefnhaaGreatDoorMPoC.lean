/- The state of a chain of the program: Undo, Height. -/
import Derived.Test.YtjdiofjjoefnhaaGreatDoorMPoB
set_option maxRecDepth 100000
set_option maxHeartbeats 4000000
namespace Go.Proofs.YtjdiofjjoefnhaaGreatDoor
open Tryz Go.ChangeShapes Go.WideShapes Go.ChangeAt Go.RowKit Go.Sort
theorem BG (p:Nat)(I:UO)(w:World)(r:i4)(s:j8)(v:p2)(h:jm p I w r s v):
 Calls prog 22 #[.pointer (some ⟨p,0,none⟩)] w (Rt w (UZ s.past.length)):=by
 obtain⟨j,u⟩:=a' h.cell;simp only [iL]at j;go_wp2;go_ret;exact⟨rfl,g' _ _⟩
def FB (s:j8)(pl:List sl)(j:sl)(u:List Int):j8:=⟨j.tree,s.leaves.take j.leaves.toNat,qt s.marks j.marks,j.book,j.hidden,u,pl⟩
theorem IT (p:Nat)(I:UO)(w:World)(r:i4)(s:j8)(v:p2)(h:jm p I w r s v)(pl:List sl)(y:sl)(ao:s.past=pl++ [y])(b5:pl.length<=10000)(U:Nat)(ae:y.leaves=U)(bR:U<=s.leaves.length)(bU:s.leaves.length<=1000000)(bV:s.marks.length<=1000000000)(bW:y.marks.length<=1000000)(G:List Int)(rt:Int)(hr:s.roots=G++ [rt])(b6:G.length<=100000):
 Calls prog 77 #[.pointer (some ⟨p,0,none⟩)] w λe w'=>e= .returned (.bool true)/\xy p I v w r (FB s pl y G) w':=by
 have az:s.past.length=pl.length+1:=by rw [ao];simp
 have a7:s.roots.length=G.length+1:=by rw [hr];simp
 obtain⟨g,cap,css,S,a9, -,bJ,bM,ar,bK,aU,hrel⟩:=h.data.past.Ib UN;simp only [mJ]at a9;obtain⟨ap, -,a3⟩:=a9;have hi:pl.length<css.length:=UN
 have aX:=hrel pl.length css[pl.length] y (by simp [hi]) (by rw [ao];simp);obtain⟨ta,aE,ba,tc,aF,bc,aZ,ad⟩:=sh.inv aX;have al: ∀k,S k->I k:=λk ab=>by
  obtain⟨h1,h2,bI⟩:=aU k ab;rcases h1 with h1|h1
  ·exact h1
  ·rw [ap]at h1;exact absurd (jR h1).symm bI
 have a1:iT v.pa=some g:=by rw [ap];rfl
 have hcell: ∀j (ax:j<7),w.cell? ⟨g,pl.length*7+j,none⟩=(#[UZ y.tree.depth,UZ y.tree.count,.slice ta y.tree.left.length tc,UZ (U:Nat),.slice aE y.marks.length aF,.slice ba y.book.length bc,U2 y.hidden]:Array Value)[j]? :=λj ax=>by
  have K:mG 145 7 w g cap css:=ar;have h1:=K.get pl.length j hi ax;have h2:css[pl.length][j]? =some (css[pl.length][j]'(by rw [K.lens _ (z3 hi)];exact ax)):=z2 _;rw [h1,<-h2,aZ,ae];simp only [List.getElem?_toArray]
 have c0:w.cell? ⟨g,pl.length*7,none⟩=some (UZ y.tree.depth):=hcell 0 UN;have c1:w.cell? ⟨g,pl.length*7+1,none⟩=some (UZ y.tree.count):=hcell 1 UN;have c2:w.cell? ⟨g,pl.length*7+2,none⟩=some (.slice ta y.tree.left.length tc):=hcell 2 UN;have bv:w.cell? ⟨g,pl.length*7+3,none⟩=some (UZ (U:Nat)):=hcell 3 UN;have bw:w.cell? ⟨g,pl.length*7+4,none⟩=some (.slice aE y.marks.length aF):=hcell 4 UN;have bx:w.cell? ⟨g,pl.length*7+5,none⟩=some (.slice ba y.book.length bc):=hcell 5 UN;have bz:w.cell? ⟨g,pl.length*7+6,none⟩=some (U2 y.hidden):=hcell 6 UN;obtain⟨Y,af⟩:=a' h.cell;simp only [iL,az,ap]at Y;have aV:=gZ.mono ad.tree λk _ ab=>al k ab;have aT:=(ih).mono ad.book λk _ ab=>al k ab;obtain⟨aM,aK,aP,aI,bi⟩:=zL ad.marks ad.hidden aV aT h;have br:Hi (∀k,S k-> ¬iw p v k):=λk ab bS=>h.free k bS (al k ab);have aJ:=Hd a1;have b4:pl.length+1<=v.pc:=by rw [a3];have:=ar.le;omega
 have bn:=Hd ar;have bq:Hi (Ca s y=⟨y.tree,s.leaves.take U,qt s.marks y.marks,y.book,y.hidden,s.roots,s.past⟩):=by show j8.mk _ _ _ _ _ _ _=_;rw [ae,jJ]
 have bt:Hi (FB s pl y G=⟨y.tree,s.leaves.take U,qt s.marks y.marks,y.book,y.hidden,G,pl⟩):=by show j8.mk _ _ _ _ _ _ _=_;rw [ae,jJ]
 obtain⟨bh,ai,ak,bk,bp⟩:=zL ae az a7 ao hr;clear h hrel aX aZ ad aU al hcell aV aT a1 ar bJ hi bK ae az a7 ao hr ap a3 bM;have b7:(0:Int)<=(pl.length:Int):=UN
 go_in;go_wp2_with fail;refine(wB p I w r s v bi.o y U bh.o bR bU bV bW ta aE ba tc aF bc aP.o aI.o S aM.o br.o aK.o).mono ?_;rintro e w2⟨rfl,aA,a2⟩;rw [bq.o]at aA;obtain⟨aj,bb⟩:=ik aA a2;clear aA a2 c0 c1 c2 bv bw bx bz Y af aP aI aM aK;obtain⟨z,aC,aW,a0⟩:=aj.o.Hw pl.length (by show pl.length<s.past.length;rw [ai.o];omega);have bQ:z=g:=by
  have h1:v.pa=some ⟨z,0,none⟩:=aC;have h2:=aJ.o;rw [h1]at h2;exact jR h2
 subst bQ;obtain⟨Y,af⟩:=a' aj.o.cell;have aq:v.pa=some ⟨z,0,none⟩:=aC;simp only [iL,ai.o,aq]at Y;have bT:(⟨y.tree,s.leaves.take U,qt s.marks y.marks,y.book,y.hidden,s.roots,s.past⟩:j8).past.length=pl.length+1:=ai.o;obtain⟨bG,bA,aQ,b1,aD, -, -, -,hrow2,bL, -, -⟩:=aj.o.data.past.Ib UN;simp only [mJ]at aD;have bP:z=bG:=by
  have h1:=aD.1;rw [aq]at h1;simpa using h1
 subst bP;have K:mG 145 7 w2 z bA aQ:=hrow2;have V:pl.length<aQ.length:=UN
 have bO: ∀j,w2.frozen? ⟨z,j,none⟩=false:=λj=>K.AY j;obtain⟨u0,d0⟩: ∃u,w2.cell? ⟨z,pl.length*7,none⟩=some u:=⟨_,K.get pl.length 0 V UN⟩;obtain⟨u1,d1⟩: ∃u,w2.cell? ⟨z,pl.length*7+1,none⟩=some u:=⟨_,K.get pl.length 1 V UN⟩;obtain⟨u2,bB⟩: ∃u,w2.cell? ⟨z,pl.length*7+2,none⟩=some u:=⟨_,K.get pl.length 2 V UN⟩;obtain⟨cd,bC⟩: ∃u,w2.cell? ⟨z,pl.length*7+3,none⟩=some u:=⟨_,K.get pl.length 3 V UN⟩;obtain⟨ce,bD⟩: ∃u,w2.cell? ⟨z,pl.length*7+4,none⟩=some u:=⟨_,K.get pl.length 4 V UN⟩;obtain⟨cf,bE⟩: ∃u,w2.cell? ⟨z,pl.length*7+5,none⟩=some u:=⟨_,K.get pl.length 5 V UN⟩;obtain⟨cg,bF⟩: ∃u,w2.cell? ⟨z,pl.length*7+6,none⟩=some u:=⟨_,K.get pl.length 6 V UN⟩;obtain⟨ag,b0⟩:=ik aW a0;clear hrow2 K V bL aD bT aW a0 aC;go_upto_region 6 with(fail);have ay:Kept (λk=> ¬iw p v k) w (w2.setCells z (pl.length*7) [I0,I0,S0,I0,S0,S0,U0]):=bb.o.trans (i2 w2 (q:=z) (S:=λk=> ¬iw p v k) (λh=>h (.inr (.inr (.inr (.inr (.inr aJ.o)))))) _ _) λ_ _ h=>h;obtain⟨av,au⟩: ∃bZ,bZ=w2.setCells z (pl.length*7) [I0,I0,S0,I0,S0,S0,U0]:=⟨_,rfl⟩;rw [<-au]at ag ay;simp only [World.setCells]at au;rw [<-au];have aL:=Hd ay;clear au ay Y af d0 d1 bB bC bD bE bF bO aj bn;have a8:(s.past.set pl.length rn).length=pl.length+1:=by rw [TG,ai.o]
 obtain⟨Y,af⟩:=a' ag.o.cell;simp only [iL,a8,aq]at Y;have bX:(pl.length:Int)<=(v.pc:Int):=UN
 have bY:pl.length<=v.pc:=UN
 have aH:=Hd (ag.o.KV pl.length (by show pl.length<=(s.past.set pl.length rn).length;omega));have be:Hi (Kept (λk=> ¬iw p v k) w (av.setCell ⟨p,17,none⟩ (.slice v.pa pl.length v.pc))):=aL.o.trans (h9 av p 17 _) λk _ h e=>h (.inl e);have bm:Hi ((s.past.set pl.length rn).take pl.length=pl):=by
  show _=_;rw [bk.o];simp
 go_upto_region 7 with(fail);rw [<-aq];have ah:Hi (jm p I (av.setCell ⟨p,17,none⟩ (.slice v.pa pl.length v.pc)) r ⟨y.tree,s.leaves.take U,qt s.marks y.marks,y.book,y.hidden,s.roots,pl⟩ { v with ta:=ta,tc:=tc,ba:=ba,bc:=bc }):=by
  have:=aH.o;simp only [bm.o]at this;exact this
 clear aH Y af a8 bX bY ag aL;generalize av.setCell ⟨p,17,none⟩ (.slice v.pa pl.length v.pc)=ch at*
 have a6:0<s.roots.length:=by rw [ak.o];omega
 obtain⟨bH,a4⟩:=El ah.o.data.roots a6;have a5:v.ra=some ⟨bH,0,none⟩:=a4;have bN:s.roots.length<=v.rc:=(g4.lens ah.o.data.roots.slice).2.1;have b8:G.length<=v.rc:=by have:=ak.o;omega
 have b9:(G.length:Int)<=(v.rc:Int):=UN
 have aG:=g0 ah.o.cell;simp only [iL,ak.o,a5]at aG;clear bN a4 a6;refine hI 12 UQ UQ ?_;simp only [Tr,U6,Ty,Tg]
 repeat (first|go_big_quiet_step (fail)|quiet_step (fail))
 refine lz ?_;intro aw aY;clear aG;have aN:=Hd (ah.o.c' aY);have bf:Hi (Kept (λk=> ¬iw p v k) w aw):=be.o.trans (Kept.of_below (S:=λk=> ¬iw p v k) aY) λ_ _ h=>h;obtain⟨aG,cj⟩:=a' aN.o.cell;have aO:=Hd (aN.o.cutRoots G.length (by show G.length<=s.roots.length;rw [ak.o];omega));have bg:Hi (Kept (λk=> ¬iw p v k) w (aw.setCell ⟨p,16,none⟩ (.slice v.ra G.length v.rc))):=bf.o.trans (h9 aw p 16 _) λk _ h e=>h (.inl e);have bo:Hi (s.roots.take G.length=G):=Hd (by rw [bp.o];simp);have bj:Hi (jm p I (aw.setCell ⟨p,16,none⟩ (.slice v.ra G.length v.rc)) r ⟨y.tree,s.leaves.take U,qt s.marks y.marks,y.book,y.hidden,G,pl⟩ { v with ta:=ta,tc:=tc,ba:=ba,bc:=bc }):=by
  have:=aO.o;simp only [bo.o]at this;exact this
 clear aO;go_wp2;go_ret;rw [<-a5,bt.o];exact⟨rfl,I,_,bj.o,bg.o,λ_ h=> .inl h,λ_ h=> .inl h⟩
abbrev qc (r:i4):Int:=jK r.mode r.depth r.bl r.bu r.qu r.iz r.win r.fin r.work
theorem uB {r:i4}(h:qc r=0)(hr:iZ r.iz):oo r:=by
 rcases Classical.em (1<=r.mode/\r.mode<=3/\1<=r.depth/\r.depth<=12/\1<=r.win/\r.win<=100/\1<=r.fin/\r.fin<=1048576/\r.iz<=4294967296/\1<=r.work/\r.work<=65536)with hh|hh
 ·exact⟨hh.2.2.1,hh.2.2.2.1,hh.2.2.2.2.1,hh.2.2.2.2.2.1,hh.2.2.2.2.2.2.1,hh.2.2.2.2.2.2.2.1,hh.2.2.2.2.2.2.2.2.1,hr,hh.2.2.2.2.2.2.2.2.2.1,hh.2.2.2.2.2.2.2.2.2.2⟩
 ·have:=t3 (bl:=r.bl) (bu:=r.bu) (q:=r.qu) hh
  rw [show qc r=1 from this.symm]at h;omega
def Om (r:i4)(w:World)(e:Ending)(w':World):Prop:=
 ∃(p:Nat) (I:UO) (v:p2),e= .returned (.tuple #[.pointer (some ⟨p,0,none⟩),I0])/\jm p I w' r (sg r) v/\(∀k,iw p v k->w.heap.size<=k)/\(∀k,I k->w.heap.size<=k)/\BW w w'
theorem Ji {r:i4} {D:Nat} (z:r.depth=D) {U B:Nat} {u E:World} (V:B=u.heap.size) (G:Below B u E) {p sb mb j:Nat} {ta:UP} {tc:Nat} {rt:Int} (ai:mT (mf D) D=rt) (ag:iZ rt)
 (Y:E.heap[p]? =some (.cells #[UZ r.mode,UZ D,UZ r.bl,UZ r.bu,UZ r.qu,r.iz,UZ r.win,UZ r.fin,r.work,UZ D,I0,.slice ta (mf D).left.length tc,S0,.pointer (some ⟨sb,0,none⟩),S0,U0,.slice (some ⟨j,0,none⟩) 1 1,S0] 111 (0,0)))
 (aj:gZ.rel (λk=>U<=k) u [.slice ta (mf D).left.length tc] (mf D).left) (ae:qw sb mb E []) (ah:E.heap[j]? =some (.cells #[rt] 24 (0,0)))
 (h1:B<=p) (h2:B<=sb) (ak:B<=mb) (al:B<=j):jm p (λk=>U<=k/\k<B) E r (sg r) ⟨ta,tc,none,0,sb,mb,none,0,some ⟨j,0,none⟩,1,none,0⟩:=by
 subst V;have ab:r.depth.toNat=D:=by rw [z,jJ]
 have af:sg r=⟨mf D,[],[],[],0,[rt],[]⟩:=by unfold sg;rw [ab,ai]
 rw [af];refine⟨?_,⟨gZ.c' (gZ.bound aj) G,Own.nil _ _ _ _ _,ae,g4.nil,ir (by show(0:Int)<=0;omega) (by show(0:Int)<_;omega),?_,Own.nil _ _ _ _ _⟩,λk e=>by simp at e,λk ad hi=> ?_,λk hi=>jg hi.2 G.size⟩
 ·rw [Y]
  show some (Obj.cells #[_,UZ (D:Int),_,_,_,_,_,_,_,_,_,_,_,_,_,_,_,_] _ _)=some (Obj.cells #[_,UZ r.depth,_,_,_,_,_,_,_,_,_,_,_,_,_,_,_,_] _ _);rw [z];rfl
 ·have:=nr (k:= .u64) (base:=0) (cap:=1) (xs:= [rt]) (cur:= [U2 rt]) ah rfl rfl (by intro x K;simp at K;subst K;exact ag) US (by unfold maxLen;omega) (iy _)
  exact this.tight
 ·obtain⟨ao,ap⟩:=hi
  rcases ad with e|e|e|e|e|e
  ·omega
  ·have y:k=sb:=e;omega
  ·have y:k=mb:=e;omega
  ·simp at e
  ·have y:j=k:=by simpa using e
   omega
  ·simp at e
theorem Ak (w:World)(r:i4)(h:qc r=0)(hr:iZ r.iz):
 Calls prog 64 #[.agg (p6 r)] w (Om r w):=by
 have ab:=Hd (uB h hr);have ak:=Hd (jc w (.cells (p6 r) 26));have av:=Hd (gY w (.cells (p6 r) 26));have aJ:=Hd h;clear h hr;go_in;go_upto_region 1 with(fail);generalize w.alloc (.cells (p6 r) 26)=W at*;obtain⟨K,aj⟩:=a' av.o;go_wp2_with fail;refine UR (vv r.mode r.depth r.bl r.bu r.qu r.iz r.win r.fin r.work W) λw1 hb1=> ?_;rw [show jK r.mode r.depth r.bl r.bu r.qu r.iz r.win r.fin r.work=0 from aJ.o];have ad:=Hd (b' hb1 av.o);clear K aj;obtain⟨K,aj⟩:=a' ad.o;obtain⟨D,U⟩:=lv (show 0<=r.depth by have:=ab.o.d0;omega);have aI:=Hd U;have ag:1<=D:=by have:=ab.o.d0;omega
 have ah:D<=12:=by have:=ab.o.d1;omega
 unfold p6 at K;rw [U]at K;have aN:Hi (((p6 r):Array Value)= #[UZ r.mode,UZ D,UZ r.bl,UZ r.bu,UZ r.qu,U2 r.iz,UZ r.win,UZ r.fin,U2 r.work]):=Hd (by unfold p6;rw [U]);clear U;go_wp2_with fail;refine(Hn w1 D ag ah).mono ?_;rintro e w2⟨ta,tc,rfl,aD,hb2⟩;have aw:=Hd (b' hb2 ad.o);clear K aj;go_upto_region 5 with(fail);have V:=jc w2 (.cells #[UZ D,I0,.slice ta (mf D).left.length tc] 104);have u:=Hd (gY w2 (.cells #[UZ D,I0,.slice ta (mf D).left.length tc] 104));obtain⟨aM,au⟩:=ik (b' V aw.o) (gZ.c' aD V);have al:=Hd (d' ak.o (d' hb1 (d' hb2 V)));have aO:Hi (w.heap.size<=w1.heap.size):=(d' ak.o hb1).size;clear hb1 hb2 V aD ad aw;generalize w2.alloc (.cells #[UZ D,I0,.slice ta (mf D).left.length tc] 104)=y at*;generalize w2.heap.size=B2 at*;have j:=aM;rw [aN.o]at j;have ar:=Hd (D5 (CD (Be D ag ah)));have aE: ∀(X:World),BW y X->Calls prog 81 #[.agg #[UZ D,I0,.slice ta (mf D).left.length tc]] X (Rt X (U2 (mT (mf D) D))):=λX aP=>
  yN _ X (mf D) D (Be D ag ah) ta tc (gZ.c' au.o aP)
 have aL:=Hd aE;obtain⟨rt,ai⟩:=iF (mT (mf D) D);have aq:=Hd ai;rw [ai]at ar;clear aE ai
 go_region_held3 (λw'=>BW y w'/\(∀o,w'.cell? ⟨w.heap.size,o,none⟩=(#[UZ r.mode,UZ D,UZ r.bl,UZ r.bu,UZ r.qu,U2 r.iz,UZ r.win,UZ r.fin,U2 r.work]:Array Value)[o]?)/\(∀o,w'.cell? ⟨B2,o,none⟩=(#[UZ D,I0,.slice ta (mf D).left.length tc]:Array Value)[o]?))
  (first
    |with_reducible exact kb.drew (kb.of j.o u.o (g' _ _))
    |with_reducible exact Y.o
    |with_reducible exact G.o
    |with_reducible exact kb.of j.o u.o (hd Y.o.1 _)
    |with_reducible exact kb.of j.o u.o (hd G.o.1 _)
    |with_reducible exact kb.of j.o u.o (hd (hd Y.o.1 _) _)
    |with_reducible exact kb.of j.o u.o (hd (hd G.o.1 _) _))
  (first
    |(go_at_call 78
      have z:=Hd (‹BW y _/\_› :kb #[UZ r.mode,UZ D,UZ r.bl,UZ r.bu,UZ r.qu,r.iz,UZ r.win,UZ r.fin,r.work] #[UZ D,I0,.slice ta (mf D).left.length tc] w.heap.size B2 y _);refine(G6 _).mono ?_;rintro e aY⟨sb,mb,rfl,aC,l1,l2,az⟩;obtain⟨aK,ao,ap,Y,aU⟩:=zL aC (iu z.o.1.size l1) (iu z.o.1.size l2) (kb.of j.o u.o (d' z.o.1 az)) az;clear aC l1 l2)
    |(go_at_call 81
      have z:=Hd (‹BW y _/\_› :kb #[UZ r.mode,UZ D,UZ r.bl,UZ r.bu,UZ r.qu,r.iz,UZ r.win,UZ r.fin,r.work] #[UZ D,I0,.slice ta (mf D).left.length tc] w.heap.size B2 y _);refine(aL.o _ z.o.1).mono ?_;rw [aq.o];rintro e wr⟨rfl,aA⟩;have G:=Hd (kb.of j.o u.o (d' z.o.1 aA));have aH:=Hd aA))
 have af:BW wr ((wr.alloc (.cells #[rt] 24)).alloc (.cells #[UZ r.mode,UZ D,UZ r.bl,UZ r.bu,UZ r.qu,r.iz,UZ r.win,UZ r.fin,r.work,UZ D,I0,.slice ta (mf D).left.length tc,S0,.pointer (some ⟨sb,0,none⟩),S0,U0,.slice (some ⟨wr.heap.size,0,none⟩) 1 1,S0] 111)):=hd (hd (g' _ _) _) _;have ae:BW y ((wr.alloc (.cells #[rt] 24)).alloc (.cells #[UZ r.mode,UZ D,UZ r.bl,UZ r.bu,UZ r.qu,r.iz,UZ r.win,UZ r.fin,r.work,UZ D,I0,.slice ta (mf D).left.length tc,S0,.pointer (some ⟨sb,0,none⟩),S0,U0,.slice (some ⟨wr.heap.size,0,none⟩) 1 1,S0] 111)):=d' G.o.1 af;have aT:=G.o.1.size;have ay:=Ji aI.o rfl ae aq.o ar.o (ji wr (.cells #[rt] 24) (.cells #[UZ r.mode,UZ D,UZ r.bl,UZ r.bu,UZ r.qu,r.iz,UZ r.win,UZ r.fin,r.work,UZ D,I0,.slice ta (mf D).left.length tc,S0,.pointer (some ⟨sb,0,none⟩),S0,U0,.slice (some ⟨wr.heap.size,0,none⟩) 1 1,S0] 111)).1 au.o (aK.o.c' (d' aH.o af)) (ji wr (.cells #[rt] 24) (.cells #[UZ r.mode,UZ D,UZ r.bl,UZ r.bu,UZ r.qu,r.iz,UZ r.win,UZ r.fin,r.work,UZ D,I0,.slice ta (mf D).left.length tc,S0,.pointer (some ⟨sb,0,none⟩),S0,U0,.slice (some ⟨wr.heap.size,0,none⟩) 1 1,S0] 111)).2 UN ao.o ap.o aT;obtain⟨aF,aG⟩:=ik ay (d' al.o ae);have aX:=al.o.size;have aV:=ao.o;have aW:=ap.o;clear ae af ay;go_wp2;go_ret2;refine⟨wr.heap.size+1,_,_,rfl,aF.o,λk aQ=> ?_,λk hi=>by have:=hi.1;have:=aO.o;omega,aG.o⟩;rcases aQ with e|e|e|e|e|e
 ·omega
 ·have ax:k=sb:=e;omega
 ·have ax:k=mb:=e;omega
 ·simp at e
 ·have ax:wr.heap.size=k:=by simpa using e
  omega
 ·simp at e
def AU (b:hV):Prop:= ∀t∈b.hQ,∀o∈t.outs,0<=o.g6
theorem i7.pos {S:UO}{w:World}{b:hV}{xa:UP}{xc:Nat}(h:i7 S w b xa xc):AU b:=by
 intro t ht;obtain⟨j,y,rfl⟩:=TH ht;obtain⟨_,_,_,_,_,_,_,_,_,_,u,_⟩:=oq h.hQ j y;exact CQ u
theorem Ej {r:i4}{N:Nat}: ∀(l:List jO) (s0:j8) (k:List jO) (s:j8) (m:List Int),tS r N s0 k s m->mF r s l=0->(∀t∈l,∀o∈t.outs,0<=o.g6)-> ∃u,tS r N s0 (k++l) (om s l) u
 | [],s0,k,s,m,h,_,_=>⟨m,by rw [T2];exact h⟩
 |t::l,s0,k,s,m,h,G,z=>by
  have j:(if h7 r s t=0 then (if jA s t=0 then mF r (kD s t) l else jA s t)else h7 r s t)=0:=G;split at j
  ·rename_i h1
   split at j
   ·rename_i h2
    obtain⟨u,y⟩:=Ej l s0 (k++ [t]) (kD s t) (m++t.marks) (h.next h1 h2 (z t US)) j λt' K=>z t' (by simp [K]);refine⟨u,?_⟩;rw [Tt]at y;exact y
   ·rename_i h2;exact absurd j h2
  ·rename_i h1;exact absurd j h1
theorem s9 {r:i4}{s:j8}{b:hV}(h:jF r s b=0):b.f'=s.past.length+1/\b.hJ<18446744069414584321/\mI r s b=0:=by
 unfold jF at h;split at h
 ·split at h
  ·exact⟨by assumption,by assumption,h⟩
  ·simp at h
 ·simp at h
theorem vI {r:i4}{s:j8}{b:hV}(h:mI r s b=0):mF r s b.hQ=0:=by
 unfold mI at h;split at h
 ·assumption
 ·rename_i h1;exact absurd h h1
theorem rI {r:i4}{N:Nat}{s:j8}{b:hV}(ok:nm r s N)(h:jF r s b=0)(z:AU b)(K:b.hQ.length<=64):nm r (ju r s b) (N+400)/\Part s (ju r s b) (mZ b.hQ):=by
 obtain⟨U,j⟩:=Ej b.hQ s [] s [] (tS.zero ok) (vI (s9 h).2.2) z;rw [TB]at j;have y:=j.ON;subst y;have h1:=j.ok;have u:N+4*b.hQ.length<=N+400:=UN
 refine⟨⟨h1.tree,h1.count,h1.leaves,iu h1.marks u,uc h1.up _ _,?_,h1.hidden,h1.roots⟩,⟨j.part.leaves,j.part.marks,j.part.nodup,j.part.fresh,j.part.roots,j.part.past⟩⟩;have h2:=s6 (om s b.hQ).book b.hJ (jh (r.iz+nD 0 b.hQ));have G:=h1.book;show(jH _ _ _).length<=_;omega
theorem JT {r:i4}{N:Nat}{s:j8}{b:hV}(ok:nm r s N)(h:jF r s b=0)(u:AU b)(j:b.hQ.length<=64):nm r (lX r s b) (N+400):=by
 obtain⟨h1,h2⟩:=rI ok h u j;refine⟨h1.tree,h1.count,h1.leaves,h1.marks,h1.up,h1.book,h1.hidden,?_⟩;show(s.roots++ [_]).length=(s.past++ [_]).length+1;rw [U3,U3,ok.roots];simp
theorem Ew {r:i4}{N:Nat}{s:j8}{b:hV}(ok:nm r s N)(h:jF r s b=0)(G:AU b)(z:b.hQ.length<=64)(K:s.marks.Pairwise (· < ·)):FB (lX r s b) s.past (pG s b) s.roots=s:=by
 obtain⟨h1,h2⟩:=rI ok h G z;have j:=Ah h2 K;have u:=congrArg j8.leaves j;have y:=congrArg j8.marks j;show j8.mk s.tree ((ju r s b).leaves.take (s.leaves.length:Int).toNat) (qt (ju r s b).marks (mZ b.hQ)) s.book s.hidden s.roots s.past=s;rw [show(ju r s b).leaves.take (s.leaves.length:Int).toNat=s.leaves from u,show qt (ju r s b).marks (mZ b.hQ)=s.marks from y]
def jl (r:i4)(bs:List hV):j8:=bs.foldl (lX r) (sg r)
theorem l5 (r:i4)(bs:List hV)(b:hV):jl r (bs++ [b])=lX r (jl r bs) b:=by unfold jl;rw [Us];rfl
structure xK (b:hV):Prop where
 valid:jX b=0
 pos:AU b
theorem xK.hQ {b:hV}(h:xK b):b.hQ.length<=64:=(kQ h.valid).2.2.2.2.2.2
def j6 (r:i4)(bs:List hV):Prop:= ∀k (h:k<bs.length),xK bs[k]/\jF r (jl r (bs.take k)) bs[k]=0
theorem j6.nil (r:i4):j6 r []:=λk h=>by simp at h
theorem j6.snoc {r:i4}{bs:List hV}(h:j6 r bs){b:hV}(j:xK b)(u:jF r (jl r bs) b=0):j6 r (bs++ [b]):=by
 intro k y;rcases kZ k bs.length with hlt|G
 ·rw [TT hlt,Uq UN]
  exact h k hlt
 ·have z:k=bs.length:=by simp at y;omega
  subst z;rw [TW UN,UH]
  ·simpa using⟨j,u⟩
  ·rfl
theorem j6.take {r:i4}{bs:List hV}(h:j6 r bs)(n:Nat):j6 r (bs.take n):=by
 intro k j;rw [Tq]at j;rw [Uk,T7,sq UN];exact h k UN
theorem j6.last {r:i4}{bs:List hV}{b:hV}(h:j6 r (bs++ [b])):j6 r bs/\xK b/\jF r (jl r bs) b=0:=by
 have h1:=h.take bs.length;rw [UH rfl]at h1;have h2:=h bs.length US;rw [TW UN,UH rfl]at h2;simp at h2;exact⟨h1,h2⟩
theorem KJ {r:i4}(h:oo r):nm r (sg r) 0:=
 ⟨Be _ (by have:=h.d0;omega) (by have:=h.d1;omega),rfl,by intro x j;simp [sg]at j,g9 _,T',g9 _,ir (by show(0:Int)<=0;omega) (by show(0:Int)<_;omega),rfl⟩
theorem vc {r:i4}{N:Nat}{s:j8}{b:hV}(ok:nm r s N)(h:jF r s b=0)(u:AU b)(j:b.hQ.length<=64)(y:s.marks.Pairwise (· < ·)):(lX r s b).marks.Pairwise (· < ·):=by
 obtain⟨h1,h2⟩:=rI ok h u j;show(ju r s b).marks.Pairwise _;rw [h2.marks];exact oS _ _ y
structure uJ (r:i4)(bs:List hV):Prop where
 ok:nm r (jl r bs) (400*bs.length)
 up:(jl r bs).marks.Pairwise (· < ·)
 past:(jl r bs).past.length=bs.length
theorem uJ.snoc {r:i4}{bs:List hV}{b:hV}(h:uJ r bs)(j:xK b)(u:jF r (jl r bs) b=0):uJ r (bs++ [b]):=by
 refine⟨?_,?_,?_⟩
 ·rw [l5,U3,TF,Nat.mul_add]
  exact JT h.ok u j.pos j.hQ
 ·rw [l5];exact vc h.ok u j.pos j.hQ h.up
 ·rw [l5,U3,TF,<-h.past]
  show((jl r bs).past++ [_]).length=_;rw [U3];rfl
theorem mC {r:i4}(hr:oo r): ∀(n:Nat) (bs:List hV),bs.length=n->j6 r bs->uJ r bs
 |0,bs,h,_=>by
  obtain rfl:=T5 h;exact⟨KJ hr,T',rfl⟩
 |n+1,bs,h,j=>by
  have z:bs≠ []:=by intro e;rw [e]at h;simp at h
  have u:=Up z;rw [<-u]at j⊢;obtain⟨h1,h2,y⟩:=j.last;exact(mC hr n bs.dropLast (by rw [List.length_dropLast];omega) h1).snoc h2 y
theorem GI {r:i4}(hr:oo r){bs:List hV}{b:hV}(y:j6 r (bs++ [b])):FB (jl r (bs++ [b])) (jl r bs).past (pG (jl r bs) b) (jl r bs).roots=jl r bs:=by
 obtain⟨h1,h2,u⟩:=y.last;have j:=mC hr _ bs rfl h1;rw [l5];exact Ew j.ok u h2.pos h2.hQ j.up
theorem IR (p:Nat)(I:UO)(w:World)(r:i4)(hr:oo r)(bs:List hV)(b:hV)(u:j6 r (bs++ [b]))(ag:bs.length<=200)(v:p2)(h:jm p I w r (jl r (bs++ [b])) v):
 Calls prog 77 #[.pointer (some ⟨p,0,none⟩)] w λe w'=>e= .returned (.bool true)/\xy p I v w r (jl r bs) w':=by
 obtain⟨h1,h2,y⟩:=u.last;have j:=mC hr _ bs rfl h1;have z:=mC hr _ _ rfl u;have ah:(bs++ [b]).length<=201:=by simp;omega
 obtain⟨hb1,hb2⟩:=rI j.ok y h2.pos h2.hQ;have U:(jl r (bs++ [b])).past=(jl r bs).past++ [pG (jl r bs) b]:=by rw [l5];rfl
 have V:(jl r (bs++ [b])).roots=(jl r bs).roots++ [mT (ju r (jl r bs) b).tree r.depth.toNat]:=by rw [l5];rfl
 have Y:(jl r bs).leaves.length<=(jl r (bs++ [b])).leaves.length:=by
  rw [l5];show _<=(ju r (jl r bs) b).leaves.length;have:=congrArg List.length hb2.leaves;rw [Tq]at this;omega
 have ae:(pG (jl r bs) b).marks.length<=1000000:=by
  obtain⟨ai,G⟩:=Ej b.hQ (jl r bs) [] (jl r bs) [] (tS.zero j.ok) (vI (s9 y).2.2) h2.pos;have ab:=G.len;have ad:=G.ON;subst ad;have af:=h2.hQ;show(mZ b.hQ).length<=_;rw [TB]at ab;omega
 have K:=IT p I w r (jl r (bs++ [b])) v h (jl r bs).past (pG (jl r bs) b) U (by rw [j.past];omega) (jl r bs).leaves.length rfl Y (yJ z.ok) (by have:=z.ok.marks;omega) ae (jl r bs).roots _ V (by rw [j.ok.roots,j.past];omega);rw [GI hr u]at K;exact K
theorem AF (p:Nat)(I:UO)(w:World)(r:i4)(hr:oo r)(bs:List hV)(G:j6 r bs)(K:bs.length<=200)(v:p2)(h:jm p I w r (jl r bs) v)(S:UO)(b:hV)(xa:UP)(xc:Nat)(y:i7 S w b xa xc)(z:b.hQ.length<=64)(u: ∀k,S k-> ¬iw p v k):
 Calls prog 32 #[.pointer (some ⟨p,0,none⟩),.agg (jI b xa xc)] w λe w'=>e= .returned (UZ (jF r (jl r bs) b))/\xy p I v w r (M0 r (jl r bs) b) w':=by
 have j:=mC hr _ bs rfl G;exact HH p I w r hr (jl r bs) v h (400*bs.length) j.ok UN (by rw [j.past];omega) S b xa xc y z u
end Go.Proofs.YtjdiofjjoefnhaaGreatDoor
