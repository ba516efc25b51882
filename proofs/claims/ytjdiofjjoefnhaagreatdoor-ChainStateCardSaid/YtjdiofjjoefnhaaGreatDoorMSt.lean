/- The reference's Encode of a state. -/
import Derived.Test.YtjdiofjjoefnhaaGreatDoorMPe
import Derived.Test.YtjdiofjjoefnhaaGreatDoorMSub
set_option maxRecDepth 100000
set_option maxHeartbeats 4000000
namespace Go.Proofs.YtjdiofjjoefnhaaGreatDoor
open Tryz Go.ChangeShapes Go.WideShapes Go.ChangeAt Go.RowKit Go.Sort
theorem lJ.rd {B:Nat}{w w':World}{ys:List Int}{e:Ending}(h:lJ B w ys e w'): ∃a cap,e= .returned (.slice a ys.length cap)/\hD.rel (λ_=>True) w' [.slice a ys.length cap] ys/\Below B w w':=by
 obtain⟨a,c,h1, -,j,u⟩:=h.read;exact⟨a,c,h1,j,u⟩
def A0 (w0 wr:World)(v:Value)(xs:List Int):Prop:=Own ve w0.heap.size 5 (λx=>False\/w0.heap.size<=x) wr v xs
theorem A0.c' {w0 w w':World}{v:Value}{xs:List Int}(h:A0 w0 w v xs)(j:BW w w'):A0 w0 w' v xs:=Own.c' h j
theorem If {P:Program} {ops:Array Oper} {rest:List Oper} {o:Oper} {a:Act} {Q:Exit->Act->World->Prop} (z:o.guard=none) (s x:Operand) {t:TypeId}
 (G:o.op= .call { callee:= .builtin .append,args:= #[s,x],argTypes:= #[t,t] }) (y:jj P t 5 1 1) {w0 wr:World} {v:Value} {xs ys:List Int} {a2:UP} {c2:Nat} (U:a.eval s=v) (Y:a.eval x= .slice a2 ys.length c2)
 (j:BW w0 wr) (K:A0 w0 wr v xs) (V:hD.rel (λ_=>True) wr [.slice a2 ys.length c2] ys) {N:Nat} (ab:xs.length+ys.length<=N) (ad:N<=1000000000)
 (u: ∀v' w' L,Hi (L=xs++ys)->L.length=xs.length+ys.length->Hi (A0 w0 w' v' L)->Hi (BW w0 w')->wpList P ops Q rest (a.put o.dst v') w'):
 wpList P ops Q (o::rest) a wr:=
 kw (k:= .u8) z s x G y U Y j j.size K V (by unfold maxLen;omega) UN λv' w' h1 h2=>u v' w' _ rfl (U3 ..) h1 h2
theorem Mv {P:Program} {ops:Array Oper} {rest:List Oper} {o:Oper} {a:Act} {Q:Exit->Act->World->Prop} (Y:o.guard=none) (s x:Operand) {t:TypeId}
 (ab:o.op= .call { callee:= .builtin .append,args:= #[s,x],argTypes:= #[t,t] }) (V:jj P t 5 1 1) {w0 wr:World} {v:Value} {xs ys:List Int} {a2:UP} {c2:Nat} (ae:a.eval s=v) (ag:a.eval x= .slice a2 ys.length c2)
 (y:BW w0 wr) {X:Nat} {z:Obj} (u:wr.heap[X]? =some z/\v.ownBlock≠some X) (ad:A0 w0 wr v xs) (af:hD.rel (λ_=>True) wr [.slice a2 ys.length c2] ys) {N:Nat} (ai:xs.length+ys.length<=N) (aj:N<=1000000000)
 (U: ∀v' w' L,Hi (L=xs++ys)->L.length=xs.length+ys.length->Hi (A0 w0 w' v' L)->Hi (BW w0 w')->Hi (w'.heap[X]? =some z/\v'.ownBlock≠some X)->wpList P ops Q rest (a.put o.dst v') w'):
 wpList P ops Q (o::rest) a wr:=
 lN (k:= .u8) Y s x ab V ae ag y y.size ad af (by unfold maxLen;omega) UN λv' w' h1 h2 G j=>U v' w' _ rfl (U3 ..) h1 h2 ⟨hE G u.1 u.2,λe=>by
  rcases j with j|j
  ·exact u.2 (j.symm.trans e)
  ·have K:=j.symm.trans e
   have ah:=ii u.1;simp at K;omega⟩
theorem zx (SP:UO)(w:World)(r:i4)(bC:1<=r.win)(bD:r.win<=100)(s:j8)(la:UP)(lc:Nat)(ma:UP)(mc:Nat)(ba:UP)(bc:Nat)(ra:UP)(rc:Nat)(h:nc SP w s ⟨la,lc,ma,mc,ba,bc,ra,rc⟩)(k1:s.past.length<=10000)(bO:s.leaves.length<=10000)(bP:s.marks.length<=100000)(bQ:s.book.length<=100000)(bR:s.roots.length<=10001):
 Calls prog 12 #[.agg #[UZ r.mode,UZ r.depth,UZ r.bl,UZ r.bu,UZ r.qu,r.iz,UZ r.win,UZ r.fin,r.work,s.past.length,.slice la s.leaves.length lc,.slice ma s.marks.length mc,.slice ba s.book.length bc,s.hidden,.slice ra s.roots.length rc]] w (lJ w.heap.size w (vm r.win s)):=by
 have av:=jc w (.cells #[UZ r.mode,UZ r.depth,UZ r.bl,UZ r.bu,UZ r.qu,r.iz,UZ r.win,UZ r.fin,r.work,s.past.length,.slice la s.leaves.length lc,.slice ma s.marks.length mc,.slice ba s.book.length bc,s.hidden,.slice ra s.roots.length rc] 58);obtain⟨y,H,aH,aK⟩:=oX (gY w (.cells #[UZ r.mode,UZ r.depth,UZ r.bl,UZ r.bu,UZ r.qu,r.iz,UZ r.win,UZ r.fin,r.work,s.past.length,.slice la s.leaves.length lc,.slice ma s.marks.length mc,.slice ba s.book.length bc,s.hidden,.slice ra s.roots.length rc] 58)) (h.c' av) av h.hidden;have aF:Hi ((k4 r.win s.roots).length<=10001):=Hd (by unfold k4;rw [Ts];omega);have a8:Hi (s.roots.length<=1000000):=Hd UN;clear av h;go_in;go_upto_region 1 with(fail);generalize w.alloc (.cells #[UZ r.mode,UZ r.depth,UZ r.bl,UZ r.bu,UZ r.qu,r.iz,UZ r.win,UZ r.fin,r.work,s.past.length,.slice la s.leaves.length lc,.slice ma s.marks.length mc,.slice ba s.book.length bc,s.hidden,.slice ra s.roots.length rc] 58)=W at*;obtain⟨j,u⟩:=a' y.o;go_wp2_with fail;refine(pS W s.past.length UN).mono ?_;intro e w1 h;obtain⟨aQ,c1,rfl,ay, -,hb1⟩:=h.read;rw [hA]at ay⊢;have aL:Hi (A0 W w1 (.slice aQ 4 c1) (hN 4 (s.past.length:Int))):=ay;have ae:=Hd hb1;obtain⟨aO,ab⟩:=iF (hN 4 (s.past.length:Int));have bw:aO.length=4:=by rw [<-ab,hA]
 have a9:=Hd ab;rw [ab]at aL;clear ay hb1 h j u ab;obtain⟨j,u⟩:=a' (b' ae.o y.o);go_wp2_with fail;refine(q8 SP w1 la lc s.leaves (H.o.c' ae.o).leaves UN).mono ?_;intro e wc h;obtain⟨ac,cc,rfl,hr,hbc⟩:=h.rd;go_wp2_with (at_builtin;go_loud (refine If (v:= .slice aQ 4 c1) (xs:=aO) (ys:=lp s.leaves) (a2:=ac) (c2:=cc) rfl _ _ rfl iU rfl rfl (d' ae.o hbc) (aL.o.c' hbc) hr (N:=80008) (by rw [kC];omega) UN ?_))
 rintro v2 w2 bp bb aX bj af;rw [kC]at aX;clear h hr hbc;clear j u;obtain⟨j,u⟩:=a' (b' af.o y.o);go_wp2_with fail;refine(q8 SP w2 ma mc s.marks (H.o.c' af.o).marks UN).mono ?_;intro e wc h;obtain⟨ac,cc,rfl,hr,hbc⟩:=h.rd;go_wp2_with (at_builtin;go_loud (refine If (v:=v2) (xs:=bp) (ys:=lp s.marks) (a2:=ac) (c2:=cc) rfl _ _ rfl iU rfl rfl (d' af.o hbc) (bj.o.c' hbc) hr (N:=880012) (by rw [kC];omega) UN ?_))
 rintro bG bK bq be aY bk aI;rw [kC]at aY;clear h hr hbc;clear j u;obtain⟨j,u⟩:=a' (b' aI.o y.o);go_wp2_with fail;refine(pS bK s.book.length UN).mono ?_;intro e wc h;obtain⟨ac,cc,rfl,hr,hbc⟩:=h.rd;go_wp2_with (at_builtin;go_loud (refine If (v:=bG) (xs:=bq) (ys:=hN 4 (s.book.length:Int)) (a2:=ac) (c2:=cc) rfl _ _ rfl iU rfl rfl (d' aI.o hbc) (bk.o.c' hbc) hr (N:=880016) (by rw [hA];omega) UN ?_))
 rintro bS bU K bf aZ aM aJ;rw [hA]at aZ;clear h hr hbc;clear j u;have bM:K.length<=880016:=UN
 clear bw aX aY aZ;go_upto_region 5 with(fail);go_wp2;go_loopw [3,4] (λbJ aC wr=> ∃(k:Nat) (ys:List Int),k<=s.book.length/\aC= UZ k/\Hi (ys=K++r9 (s.book.take k))/\ys.length<=880016+24*k/\Hi (A0 W wr bJ ys)/\Hi (BW W wr)) (λ_ aC _=>s.book.length-(intOf aC).toNat)
 case atStart=>exact⟨0,K,iy _,rfl,by show _=_;simp [r9],UN,aM,aJ⟩
 case round=>
  obtain⟨k,ys,V,rfl,a1,bN,ad,U⟩:=hrel;clear aM aJ;obtain⟨j,u⟩:=a' (b' U.o y.o);by_cases hlt:k<s.book.length
  ·obtain⟨b,off,rfl,bv, -,az,d0,d1,aT⟩:=o6 (H.o.c' U.o).book k hlt
   have aN:Hi (r9 (s.book.take (k+1))=r9 (s.book.take k)++M1 s.book[k]):=Hd (by rw [z4 hlt,vL]);obtain⟨x,a0⟩:=iF (s.book[k]);rw [a0]at az d0 d1 aT aN;have z:=Hd az;have aw:=jc wr (.cells #[x.id,x.jD,x.e'] 119);obtain⟨ak,a6,bo⟩:=kT (gY wr (.cells #[x.id,x.jD,x.e'] 119)) (d' U.o aw) (ad.o.c' aw);have ao:Hi (u3.ownBlock≠some wr.heap.size):=λe=>(by have:=(Own.lt ad.o e).1;omega);have bE:wrap64 ((k:Int)+1)=(k:Int)+1:=(by unfold wrap64;omega);clear aw ad U az a0 bv;go_upto_region 9 with(fail);generalize wr.alloc (.cells #[x.id,x.jD,x.e'] 119)=a3 at*;obtain⟨X,aU⟩:=iF (wr.heap.size);rw [aU]at ak ao⊢;have ah:Hi (a3.heap[X]? =some (.cells #[x.id,x.jD,x.e'] 119 (0,0))/\u3.ownBlock≠some X):=⟨ak.o,ao.o⟩;clear ak ao;clear d0 d1 aT aU j u;obtain⟨j,u⟩:=a' ah.o.1;go_wp2_with fail;refine(i3 a3 x.id (iE z.o.id).1 (iE z.o.id).2 8 UN).mono ?_;intro e wc h;obtain⟨ac,cc,rfl,hr,hbc⟩:=h.rd;go_wp2_with (at_builtin;go_loud (refine Mv (v:=u3) (xs:=ys) (ys:=hN 8 x.id) (a2:=ac) (c2:=cc) rfl _ _ rfl iU rfl rfl (d' a6.o hbc) ⟨b' hbc ah.o.1,ah.o.2⟩ (bo.o.c' hbc) hr (N:=880016+24*k+8) (by rw [hA];omega) UN ?_))
   rintro aA aD ar al ax ap G ai;rw [hA]at ax;clear h hr hbc;clear j u;obtain⟨j,u⟩:=a' ai.o.1;go_wp2_with fail;refine(i3 aD x.jD (iE z.o.jD).1 (iE z.o.jD).2 8 UN).mono ?_;intro e wc h;obtain⟨ac,cc,rfl,hr,hbc⟩:=h.rd;go_wp2_with (at_builtin;go_loud (refine Mv (v:=aA) (xs:=ar) (ys:=hN 8 x.jD) (a2:=ac) (c2:=cc) rfl _ _ rfl iU rfl rfl (d' G.o hbc) ⟨b' hbc ai.o.1,ai.o.2⟩ (ap.o.c' hbc) hr (N:=880016+24*k+16) (by rw [hA];omega) UN ?_))
   rintro bH aE br bg bx aq Y aj;rw [hA]at bx;clear h hr hbc;clear j u;obtain⟨j,u⟩:=a' aj.o.1;go_wp2_with fail;refine(i3 aE x.e' (iE z.o.e').1 (iE z.o.e').2 8 UN).mono ?_;intro e wc h;obtain⟨ac,cc,rfl,hr,hbc⟩:=h.rd;go_wp2_with (at_builtin;go_loud (refine Mv (v:=bH) (xs:=br) (ys:=hN 8 x.e') (a2:=ac) (c2:=cc) rfl _ _ rfl iU rfl rfl (d' Y.o hbc) ⟨b' hbc aj.o.1,aj.o.2⟩ (aq.o.c' hbc) hr (N:=880016+24*k+24) (by rw [hA];omega) UN ?_))
   rintro bT bV aP bh bz bm a4 bL;rw [hA]at bz;clear h hr hbc;clear j u;have ag:Hi (aP=K++r9 (s.book.take (k+1))):=Hd (by rw [bh.o,bg.o,al.o,a1.o,aN.o];simp [M1]);go_wp2;go_roundw
   case rel=>exact⟨k+1,aP,UN,by go_num,ag,UN,bm,a4⟩
   case measure=>first|(rw [bE];exact rW hlt (pb k))|exact rW hlt (pb k)
  ·obtain rfl:k=s.book.length:=UN
   have ag:Hi (ys=K++r9 s.book):=Hd (by rw [a1.o,Sw]);go_wp2_with fail;refine(i3 wr s.hidden (iE aK.o).1 (iE aK.o).2 8 UN).mono ?_;intro e wc h;obtain⟨ac,cc,rfl,hr,hbc⟩:=h.rd;go_wp2_with (at_builtin;go_loud (refine If (v:=u3) (xs:=ys) (ys:=hN 8 s.hidden) (a2:=ac) (c2:=cc) rfl _ _ rfl iU rfl rfl (d' U.o hbc) (ad.o.c' hbc) hr (N:=880016+24*100000+8) (by rw [hA];omega) UN ?_))
   rintro aA aD ar al ax ap G;rw [hA]at ax;clear h hr hbc;clear j u;go_wp2_with (refine kf rfl _ _ rfl w.heap.size rfl _ _ _ _ (b' G.o y.o) underlying58 rfl UQ ?_)
   refine UR (uR SP aD r bC bD s ⟨la,lc,ma,mc,ba,bc,ra,rc⟩ (H.o.c' G.o) a8.o) λaE au=> ?_;obtain⟨Y,aq⟩:=ik (d' G.o au) (ap.o.c' au);have aG:=Hd (Gs (win:=r.win) (H.o.c' Y.o).roots);obtain⟨aa,aV⟩:=iF (Eg ra rc (s.roots.length-r.win.toNat));obtain⟨ca,aW⟩:=iF (rc-(s.roots.length-r.win.toNat));rw [aV,aW]at aG⊢;clear au aV aW;go_wp2_with fail;refine(q8 SP aE aa ca (k4 r.win s.roots) aG.o (by have:=aF.o;omega)).mono ?_;intro e wc h;obtain⟨ac,cc,rfl,hr,hbc⟩:=h.rd;go_wp2_with (at_builtin;go_loud (refine If (v:=aA) (xs:=ar) (ys:=lp (k4 r.win s.roots)) (a2:=ac) (c2:=cc) rfl _ _ rfl iU rfl rfl (d' Y.o hbc) (aq.o.c' hbc) hr (N:=4000000) (by have:=aF.o;rw [kC];omega) UN ?_))
   rintro bI bW bt bi bA bn a5;rw [kC]at bA;clear h hr hbc;have a7:Hi (vm r.win s=bt):=by
    show _=_;rw [bi.o,al.o,ag.o,bf.o,be.o,bb.o,<-a9.o];simp [vm]
   go_wp2;go_ret;rw [a7.o];have bB:=aH.o.size;have bF:=(Own.lower bn.o bB).mono (F':=λx=>False\/w.heap.size<=x) λk _ V=>by
    rcases V with V|V
    ·exact .inl V
    ·exact .inr UN
   exact⟨bI,rfl,bF,d' aH.o a5.o⟩
structure NQ (r:i4)(m md:k7)(i:Nat):Prop where
 le:i<=m.best.length
 best:md.best=m.best.take i
 len:md.L.length=i
 at': ∀(k:Nat) (h:k<md.L.length),∃e,iA m.L (m.best.getD k 0)=some e/\md.L[k].id=m.best.getD k 0/\md.L[k].b=e.b/\md.L[k].jy=((k:Int)+1)*r.work
section
variable {r:i4} {m md:k7} {i:Nat}
theorem NQ.find (h:NQ r m md i)(G:lE r md)(k:Nat)(j:k<i): ∃e,iA md.L (m.best.getD k 0)=some (md.L[k]'(by rw [h.len];exact j))/\iA m.L (m.best.getD k 0)=some e/\(md.L[k]'(by rw [h.len];exact j)).b=e.b/\(md.L[k]'(by rw [h.len];exact j)).jy=((k:Int)+1)*r.work:=by
 have u:k<md.L.length:=by rw [h.len];exact j
 obtain⟨e,h1,h2,y,z⟩:=h.at' k u;refine⟨e,?_,h1,y,z⟩;rw [<-h2];exact G.D9 _ (z3 u)
end
theorem HG {r:i4}{m:k7}{rc:nL}(s:lD m rc)(ok:lE r m):kO rc.L (js rc.L rc.L.length rc.lh)=iG m.L m.best:=by
 have V:=Db s ok;refine Um (by unfold kO iG;rw [TC,TC,V]) λk h1 h2=> ?_;have y:k<(js rc.L rc.L.length rc.lh).length:=by unfold kO at h1;rwa [TC]at h1
 obtain⟨j,u,K,Y,U⟩:=Da s ok k y;rw [yn _ _ _ h1 y,C9 _ _ _ h2 UN,K,jJ,lA _ _ u];obtain⟨e,f1,G, -⟩:=s.at ok j u;have z:m.best[k]' UN=rc.L[j].id:=by rw [U,U5,z2 UN];rfl
 unfold wZ;rw [z,f1,<-G];rfl
theorem DC (SP:UO)(w:World)(r:i4)(hr:oo r)(bs:List hV)(z:j6 r bs)(U:bs.length<=200)(v:ug)(h:nc SP w (jl r bs) v):
 Calls prog 12 #[.agg (ij r (jl r bs) v)] w (lJ w.heap.size w (vm r.win (jl r bs))):=by
 have j:=mC hr _ bs rfl z;have h1:=j.ok.roots;have h2:=j.past;have G:=j.ok.marks;have K:=j.ok.book;have y:(jl r bs).leaves.length<=10000:=by
  have h1:=j.ok.count;have h2:=j.ok.tree.c1;obtain⟨-, -,u⟩:=pL ⟨r.depth.toNat,by have:=j.ok.tree.d1;omega⟩;simp only at u;omega
 obtain⟨la,lc,ma,mc,ba,bc,ra,rc⟩:=v;exact zx SP w r hr.w0 hr.w1 (jl r bs) la lc ma mc ba bc ra rc h UN y UN UN UN
theorem lO.more {w0 w1 w2:World}{B:Nat}{l:List Value}(h:lO w0 B l w1)(h2:lO w1 B l w2):lO w0 B l w2:=⟨d' h.mx h2.mx,h2.Lh⟩
theorem GE (w:World)(r:i4)(hrw:iZ r.iz)(l:List hV)(la:UP)(lc:Nat)(h:mh.rel (λk=>k<w.heap.size) w [.slice la l.length lc] l):
 Calls prog 3 #[.agg (p6 r),.slice la l.length lc] w (Rt w (.bool true)):=by
 have g1:=(g4.lens h).2;unfold maxLen at g1;have xq:=jc w (.cells (p6 r) 26);have HX:=Hd (gY w (.cells (p6 r) 26));obtain⟨H,HB⟩:=ik (mh.c' h xq) xq;have BQ:Hi ((w.alloc (.cells (p6 r) 26)).heap.size=w.heap.size+1):=Hd (by rw [U4]);clear xq h;go_in;go_upto_region 1 with(fail);generalize w.alloc (.cells (p6 r) 26)=W at*;go_wp2_with fail;refine UR (nJ W) λw1 hb1=> ?_;obtain⟨x0,x1⟩:=a' (b' hb1 HX.o);go_wp2_with fail;refine UR (q7 _ w1 r.mode r.depth r.bl r.bu r.qu r.iz r.win r.fin r.work l la lc 12 (mh.c' H.o hb1)) λw2 hb2=> ?_;have HB2:=Hd (d' hb1 hb2);clear x0 x1 hb1 hb2;obtain⟨rt,hrt⟩:=iF (o5 r.mode r.depth r.bl r.bu r.qu r.iz r.win r.fin r.work l 12);have Lm:=Hd hrt;rw [hrt];clear hrt
 cases rt with
 |false=>
  go_wp2_with fail;refine UR (nJ w2) λw3 hb3=> ?_;go_wp2;go_ret;exact⟨rfl,d' HB.o (d' HB2.o hb3)⟩
 |true=>
  have HRR:Hi ((∀b∈l,jq b=true)/\r.mode=2/\r.depth<=11/\l.length<=12/\qc r=0):=by
   have h1:=Lm.o;unfold o5 at h1;simp only [kg,iO]at h1;obtain⟨h2,h3,h5,h4⟩:=Bh h1.1;exact⟨h2,h3,UN,UN,h1.2⟩
  have Gy:=Hd HRR.o.2.1;have A2:Hi (r.depth<=11):=HRR.o.2.2.1;have vq:Hi (l.length<=12):=HRR.o.2.2.2.1;obtain⟨D3,Nf,Ig⟩:=kT (uB HRR.o.2.2.2.2 hrw) HRR.o.2.2.2.2 HRR.o.1;clear Lm HRR;obtain⟨x0,x1⟩:=a' (b' HB2.o HX.o);go_wp2_with fail;refine(rS w2 r Gy.o Nf.o hrw).mono ?_;rintro e w5⟨c,PI,SB,v,rfl,hat,hmu,hpi,hsb,hb5⟩;have HAT:=Hd hat
  have sd:Hi (∀k,jG c v k->W.heap.size<=k):=λk hk=>iu HB2.o.size (hmu k hk);have vR:=Hd (d' HB2.o hb5);clear x0 x1 hat hmu hpi hsb hb5 HB2;go_upto_region 4 with(refine kI rfl _ _ _ rfl w5.heap.size _ rfl rfl _ _ (gY w5 (.cells pn 39)) UQ rfl UQ ?_)
  obtain⟨w6,Lg,J5,H'⟩: ∃x,_=x/\Hi (BW W x)/\Hi (un c SB PI x r ⟨[],[],0,0⟩ v w5.heap.size (λ_=>False) ⟨[], -1, -1⟩ none 0):=
   ⟨_,rfl,d' vR.o (below_setRow (g:=w5.heap.size) (hd (g' _ _) (.cells pn 39)) (g9 _) (UU r)),x' HAT.o pn⟩
  rw [Lg];obtain⟨M,hM⟩:=iF (w5.heap.size);have Lq:Hi (W.heap.size<=M):=Hd (by rw [<-hM];exact vR.o.size);rw [hM]at H'⊢;clear Lg hM vR HAT;go_wp2;go_loopw [30] (λvi wr=> ∃(k:Nat) (m:k7) (SB PI SP:UO) (v:p3) (rc:nL) (ra:UP) (rl:Nat),k<=l.length/\vi= UZ k/\Hi (m.L.length<=k)/\Hi (un c SB PI wr r m v M SP rc ra rl)/\Hi (∀j,jG c v j->W.heap.size<=j)/\Hi (BW W wr)) (λvi _=>l.length-(intOf vi).toNat)
  case atStart=>exact⟨0,⟨[],[],0,0⟩,SB,PI,λ_=>False,v,⟨[], -1, -1⟩,none,0,iy _,rfl,g9 _,H',sd,J5⟩
  case round=>
   clear H' sd J5;obtain⟨k,m,SB,PI,SP,v,rc,ra,rl,hk,rfl,BX,zN,sd,D8⟩:=hrel;by_cases hlt:k<l.length
   ·as_aux_lemma=>
    obtain⟨bb,off,xa,xc,rfl,hbl,hb,c0,c1,c2,c3,c4,c5⟩:=xo (mh.c' H.o D8.o) k hlt;have BT:Hi (jq l[k]=true):=Ig.o _ (z3 hlt);obtain⟨b,hbq⟩:=iF (l[k]);rw [hbq]at hb c0 c1 c2 c3 c4 c5 BT;clear hbq;have hbn:=jc wr (.cells (jI b xa xc) 44);have HXB:=Hd (gY wr (.cells (jI b xa xc) 44));obtain⟨rT,HB1,D7⟩:=kT (zN.o.c' hbn) (d' D8.o hbn) (hb.c' hbn);have H8:Hi (wr.heap.size≠M/\ ¬jG c v wr.heap.size):=⟨by have:=ii zN.o.box;omega,λhm=>pK _ (zN.o.at'.ki _ hm)⟩;clear hbn zN D8 hb;go_upto_region 9 with(fail);clear c0 c1 c2 c3 c4 c5;generalize wr.alloc (.cells (jI b xa xc) 44)=wn at*;obtain⟨X,hX⟩:=iF (wr.heap.size);rw [hX]at HXB H8⊢;clear hX;go_wp2_with (first|(refine kf rfl _ _ rfl X rfl _ _ _ _ HXB.o underlying44 rfl UQ ?_))
    refine(sO c SB PI wn r D3.o Gy.o m v rT.o.at' rT.o.ok rT.o.sm (by have:=BX.o;have:=vq.o;omega) _ b xa xc D7.o (λj hj hm=>by have h1:=sd.o j hm;have h2:=BQ.o;have h3:j<w.heap.size:=hj;omega) BT.o).mono ?_;rintro e wa⟨U,A,E,m',vf,ob,v',rfl,hres,B4,hst',hok',BZ,Id⟩;obtain⟨hbz,hza,hmz⟩:=nF HB1.o HB1.o.size sd.o hst';obtain⟨hbx,hro,hap,hfa,hfs,hfp⟩:=rT.o.step hst';obtain⟨H5,FA,Lp,HAT,J2,Lk,xt,BU⟩:=Mb hres hbz hmz B4 hok' BZ hbx hro;obtain⟨Ly,Lt,Lr,Ls,Ln,Ll⟩:=J1 hap hfa hfs hfp rT.o.ok rT.o.Gv;have J3:Hi (m.L.length<=99):=Hd (by have:=BX.o;have:=vq.o;omega);have B9:Hi (m'.L.length<=k+1):=Hd (by have:=BX.o;omega);have tL:=Hd (hE hst'.kept HXB.o H8.o.2);have B':=Hd (D7.o.keep (hst'.kept.mono λj _ hj hm=>by have h1:=sd.o j hm;have h2:=BQ.o;have h3:j<w.heap.size:=hj;omega));have Lx:Hi (∀j,j<w.heap.size-> ¬jG c v' j/\j≠M):=λj hj=>⟨λhm=>by have h1:=hmz j hm;have h2:=BQ.o;omega,by have h2:=BQ.o;have h4:=Lq.o;omega⟩;clear hres hbz hza hmz B4 hst' hok' BZ Id hbx hro hap hfa hfs hfp rT HB1 sd BX D7 HXB;go_upto_region 10 with(fail);go_wp2_with (first|(refine kf rfl _ _ rfl M rfl _ _ _ _ xt.o underlying39 rfl UQ ?_)|(refine kf rfl _ _ rfl X rfl _ _ _ _ tL.o underlying44 rfl UQ ?_))
    refine(vz SP (λj=>j<w.heap.size) wa r D3.o Gy.o A2.o m Ln.o rc Ll.o J3.o ra rl BU.o b xa xc B'.o BT.o H5.o).mono ?_;rintro e wb⟨oW,AR,AQ,rfl,B3,B0,hb2⟩;obtain⟨xr,J',Lw⟩:=kT (vD HAT.o J2.o Lk.o xt.o Ly.o Lt.o Lx.o Lr.o Ls.o B0 B3 hb2) (below_setRow (g:=M) (d' FA.o hb2) Lq.o (mE false r AR AQ oW)) (b' hb2 xt.o);clear B3 B0 hb2 HAT J2 Lk xt BU Ly Lt Lr Ls Ln Ll J3 tL B' Lx FA H8 BT;go_upto_region 11 with(first|(refine kI rfl _ _ _ rfl M _ rfl rfl _ _ Lw.o UQ rfl UQ ?_))
    generalize wb.setRow M (mE false r AR AQ oW)=wc at*;clear Lw H5;go_wp2_with fail;refine UR (tt c vf ob wc r m' _ v' xr.o.at') λwe hbe=> ?_;obtain⟨H6,Pu⟩:=ik (xr.o.c' hbe) (d' J'.o hbe);clear hbe xr J';go_wp2_with fail;obtain⟨EL,RB⟩:=iF (vm r.win (jl r (iG m'.L m'.best)));obtain⟨Pp,RQ,Pt,BU⟩:=oX RB H6.o.at'.state (HG H6.o.Gv H6.o.ok) H6.o.ok.Ef;have J4:Hi ((iG m'.L m'.best).length<=200):=by
     show _<=_;unfold iG;rw [TC];have h1:=H6.o.ok.best.len H6.o.ok.high;have h2:=B9.o;have h3:=vq.o;omega
    have OX:=Hd H6.o.Gv.len;clear RB;obtain⟨bs,hbs⟩:=iF (iG m'.L m'.best);rw [hbs]at RQ Pt BU J4 Pp;clear hbs;have HRW:Hi (j6 r (kO oW.L (js oW.L oW.L.length oW.lh))):=(by show j6 _ _;rw [Pt.o];exact BU.o);have Ka:=Hd H6.o.Gv.bounds;refine qS (S:=lO we M (UV false r AR AQ oW)) UQ (lO.of H6.o.box (g' _ _).drew) (λhHeld=> ?_);go_simp;refine kL 0 ?_;go_simp;refine kL 1 ?_;go_simp;refine kL 2 ?_;go_simp;refine kL 3 ?_;go_simp;refine xp 6 rfl (pe (by rfl) _ _ rfl (M) (0) rfl (UV false r AR AQ oW) _ (λwz hSz=>hSz.range) underlying39 rfl UQ) ?_;go_simp;refine kL 7 ?_;go_simp;refine Gu 8 rfl (λwz hSz=>by have c1:=hSz.Lh;go_simp;all_goals with_reducible rfl) ?_;go_simp;refine l8 4 rfl (λK hK=> ?_);go_simp;refine(yQ v'.p ob _ r D3.o bs BU.o J4.o v'.pv (RQ.o.c' hHeld.mx)).mono ?_;rintro e w3⟨y3,a3,c3,Se, -,rfl,h3,hb3⟩;have NN:=d' hHeld.mx hb3;clear hHeld;refine hK.out _ _ (lO.of H6.o.box NN) (λhHeld=> ?_);clear hK K;go_simp;have hy3:=Se.o.trans Pp.o;subst hy3;obtain⟨Nc,Kv,HB3,Pk⟩:=oX h3 (b' hHeld.mx H6.o.box) (d' Pu.o hHeld.mx) (H6.o.c' hHeld.mx);refine sK (S':=lO w3 M (UV false r AR AQ oW)) (λwz hz=>lO.more hHeld hz) _ _ _ _ ?_;replace hHeld:lO w3 M (UV false r AR AQ oW) w3:=lO.of Kv.o (g' _ _);clear hb3 NN h3 Se;refine Gu 5 rfl (λwz hSz=>by have s3:=yj (hD.c' Nc.o hSz.mx);go_simp;all_goals with_reducible rfl) ?_;go_simp;refine l8 9 rfl (λK hK=> ?_);go_simp;refine(rO _ _ false r D3.o A2.o oW AR AQ (jf.c' Pk.o.rows hHeld.mx) Pk.o.Gv.zU (by have:=OX.o;have:=B9.o;have:=vq.o;omega) oW.lh Ka.o.1 Ka.o.2.1 HRW.o).mono ?_;rw [Pt.o];rintro e w4⟨sv,rfl,hst,hb4⟩;obtain⟨O8,HST⟩:=ik (d' hHeld.mx hb4) hst;clear hb4 hst;clear hHeld;refine hK.out _ _ (lO.of Kv.o O8.o) (λhHeld=> ?_);clear hK K;go_simp;refine l8 10 rfl (λK hK=> ?_);go_simp;refine(DC _ _ r D3.o bs BU.o J4.o sv HST.o).mono ?_;rintro e w5⟨v5,rfl,J6,hb5⟩;have N1:=Pp.o;rw [N1]at J6;have h5:=J6.slice;obtain⟨a5,c5,rfl, -, -⟩:=iW J6;obtain⟨vR,OV⟩:=ik (d' O8.o hb5) h5;clear hb5 h5 J6 N1 hHeld;refine hK.out _ _ (lO.of Kv.o vR.o) (λhHeld=> ?_);clear hK K;go_simp;have Ru:=Hd (b' vR.o Kv.o);refine sK (S':=lO w5 M (UV false r AR AQ oW)) (λwz hz=>lO.more hHeld hz) _ _ _ _ ?_;replace hHeld:lO w5 M (UV false r AR AQ oW) w5:=lO.of Ru.o (g' _ _);refine Gu 11 rfl (λwz hSz=>by have s5:=yj (hD.c' OV.o hSz.mx);go_simp;all_goals with_reducible rfl) ?_;go_simp;refine kL 12 ?_;go_simp;refine kL 13 ?_;go_simp;refine mA UQ ?_ _
    (try simp only [Exit.then])
    obtain⟨M6,Ka⟩:=ik (Pk.o.c' vR.o) (d' HB3.o vR.o);go_wp2;go_roundw
    case rel=>exact⟨k+1,m',vf,ob,_,v',oW,AR,AQ,UN,by go_num,B9,M6,Lp,Ka⟩
    case measure=>exact UY
   ·obtain rfl:k=l.length:=UN
    go_wp2;go_ret;exact⟨rfl,d' HB.o D8.o⟩
end Go.Proofs.YtjdiofjjoefnhaaGreatDoor
