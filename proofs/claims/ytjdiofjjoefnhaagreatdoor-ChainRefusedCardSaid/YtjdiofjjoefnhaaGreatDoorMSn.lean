/- The chain of the program: New, the memory of its oracle named. -/
import Derived.Test.YtjdiofjjoefnhaaGreatDoorMLw
set_option maxRecDepth 100000
set_option maxHeartbeats 2000000
namespace Go.Proofs.YtjdiofjjoefnhaaGreatDoor
open Tryz Go.ChangeShapes Go.WideShapes Go.ChangeAt Go.RowKit Go.Sort
def MS (S:UO)(r:i4)(w:World)(e:Ending)(w':World):Prop:=
 ∃(c:Nat) (PI:UO) (v:p3),e= .returned (.tuple #[.pointer (some ⟨c,0,none⟩),I0])/\j5 c S PI w' r ⟨[],[],0,0⟩ [] v/\(∀k,jG c v k->w.heap.size<=k)/\(∀k,PI k->w.heap.size<=k)/\BW w w'
theorem AB {S:UO}{w j:World}(z: ∀k,S k->k<w.heap.size)(G:BW w j){r:i4}{op p:Nat}{PI:UO}{pv:p2}(ad:r.mode=2->sk S op w)(u:jm p PI j r (sg r) pv)(Y: ∀k,iw p pv k->w.heap.size<=k):
 j5 (j.heap.size+1) S PI ((j.alloc (.map #[] 0)).alloc (.cells #[.pointer (some ⟨op,0,none⟩),UZ r.mode,UZ r.depth,UZ r.bl,UZ r.bu,UZ r.qu,r.iz,UZ r.win,UZ r.fin,r.work,.map (some j.heap.size),S0,.pointer (some ⟨p,0,none⟩),U0,I0] 79)) r ⟨[],[],0,0⟩ [] ⟨op,j.heap.size,none,0,p,pv⟩:=by
 have hb2:BW j ((j.alloc (.map #[] 0)).alloc (.cells #[.pointer (some ⟨op,0,none⟩),UZ r.mode,UZ r.depth,UZ r.bl,UZ r.bu,UZ r.qu,r.iz,UZ r.win,UZ r.fin,r.work,.map (some j.heap.size),S0,.pointer (some ⟨p,0,none⟩),U0,I0] 79)):=hd (hd (g' _ _) _) _;have af:=G.size;have ab:((j.alloc (.map #[] 0)).alloc (.cells #[.pointer (some ⟨op,0,none⟩),UZ r.mode,UZ r.depth,UZ r.bl,UZ r.bu,UZ r.qu,r.iz,UZ r.win,UZ r.fin,r.work,.map (some j.heap.size),S0,.pointer (some ⟨p,0,none⟩),U0,I0] 79)).heap[j.heap.size]? =some (.map #[] 0):=(ji j (.map #[] 0) (.cells #[.pointer (some ⟨op,0,none⟩),UZ r.mode,UZ r.depth,UZ r.bl,UZ r.bu,UZ r.qu,r.iz,UZ r.win,UZ r.fin,r.work,.map (some j.heap.size),S0,.pointer (some ⟨p,0,none⟩),U0,I0] 79)).2;refine⟨(ji j (.map #[] 0) (.cells #[.pointer (some ⟨op,0,none⟩),UZ r.mode,UZ r.depth,UZ r.bl,UZ r.bu,UZ r.qu,r.iz,UZ r.win,UZ r.fin,r.work,.map (some j.heap.size),S0,.pointer (some ⟨p,0,none⟩),U0,I0] 79)).1,λe=>(ad e).keep (Kept.of_below (S:=λk=>k<w.heap.size) (d' G hb2)) z,⟨[],(rD j).at' (by rw [ab];exact(gY j (.map #[] 0)).symm),λ_=>rfl,g9 _⟩,λe U=>by simp at U,g4.nil,u.c' hb2,?_,λh=>by have:=u.ki _ h;omega,λh=>by have K:=u.ki _ h;exact pK _ K,λk y=>by have:=u.lt k y;exact⟨UN,by show k≠j.heap.size;omega⟩,λk y=>jg (z k y) (d' G hb2).size⟩;rintro k (e|e|e) V
 all_goals have y:=z k V
 ·omega
 ·have ae:k=j.heap.size:=e;omega
 ·have:=Y k e;omega
theorem yW (S:UO)(w:World)(op:Nat)(ag:Bool)(st:Int)(aI:r' ag st op w)(r:i4)(hr:iZ r.iz)(aG: ∀k,S k->k<w.heap.size)(aJ:r.mode=2->sk S op w):
 Calls prog 16 #[.pointer (some ⟨op,0,none⟩),.agg (p6 r)] w λe w'=>(xu r ag=0->MS S r w e w')/\(xu r ag≠0->e= .returned (.tuple #[.pointer none,UZ (xu r ag)])/\BW w w'):=by
 obtain⟨aq,aE,aA,aD⟩:=oX aI aG aJ hr;have aL:=Hd (jc w (.cells (p6 r) 26));have aF:=Hd (gY w (.cells (p6 r) 26));have ar:Hi (xu r ag=if qc r=0 then (if (ag != (r.mode==3))=true then 1 else 0)else qc r):=rfl;clear aI hr aG aJ;go_in;go_upto_region 1 with(fail);generalize w.alloc (.cells (p6 r) 26)=W at*;obtain⟨z,ai⟩:=a' aF.o;go_wp2_with fail;refine UR (vv r.mode r.depth r.bl r.bu r.qu r.iz r.win r.fin r.work W) λw1 hb1=> ?_;obtain⟨U,Y⟩:=ik (d' aL.o hb1) (b' hb1 aF.o);clear z ai hb1;by_cases ae:qc r=0
 ·have ak:=Hd (ar.o.trans (g7 ae))
  have aC:=Hd ae;rw [show jK r.mode r.depth r.bl r.bu r.qu r.iz r.win r.fin r.work=0 from ae];clear ae ar;obtain⟨aK,aH⟩:=iF ((r.mode==3));rw [aH]at ak;have aT:=Hd aH
  cases ag with
  |true=>cases aK with
   |true=>
    have u: ∀(d:Nat) (os:Array Obj),Calls prog 63 #[.pointer (some ⟨op,0,none⟩)] (grow (redrawn w1 d) os) λe w'=>e= .returned (.bool true)/\Below (grow (redrawn w1 d) os).heap.size (grow (redrawn w1 d) os) w':=λd os=>
     (oU _ op _ st ((aq.o.c' U.o).c' (lm w1 d os))).mono λ_ _ h=>⟨h.1,by rw [<-h.2];exact g' _ _⟩
    have z:=g0 Y.o;go_wp2;refine m6 ?_
    repeat (first|go_big_quiet_step (exact ie (u _ _))|quiet_step (exact ie (u _ _)))
    refine lz ?_;intro w2 j;clear z u;obtain⟨G,ad⟩:=ik (d' U.o j) (b' j Y.o);clear j;have V:Hi (xu r true=0):=Hd (by rw [ak.o];rfl);obtain⟨z,ai⟩:=a' ad.o;go_wp2_with fail;refine(Ak w2 r aC.o aD.o).mono ?_;rintro e ah⟨p,PI,pv,rfl,al,ao,ap,af⟩;have av:=Hd al
    have aj:Hi (∀k,iw p pv k->w.heap.size<=k):=λk K=>iu G.o.size (ao k K);have ay:Hi (∀k,PI k->w.heap.size<=k):=λk K=>iu G.o.size (ap k K);obtain⟨ab,az⟩:=ik (d' G.o af) (b' af ad.o);clear al ao ap af z ai;obtain⟨z,ai⟩:=a' az.o;have aP:= @xH prog;have ax:=Hd (AB aE.o ab.o (op:=op) aA.o av.o aj.o);have aw:=Hd (hd (hd ab.o (.map #[] 0)) (.cells #[.pointer (some ⟨op,0,none⟩),UZ r.mode,UZ r.depth,UZ r.bl,UZ r.bu,UZ r.qu,r.iz,UZ r.win,UZ r.fin,r.work,.map (some ah.heap.size),S0,.pointer (some ⟨p,0,none⟩),U0,I0] 79));have aQ:=ab.o.size;go_wp2;go_ret2;refine⟨λ_=>⟨ah.heap.size+1,PI,_,rfl,ax.o,λk K=> ?_,ay.o,aw.o⟩,λh=>absurd V.o h⟩;rcases K with e|e|e
    ·omega
    ·have aO:k=ah.heap.size:=e;omega
    ·exact aj.o k e
   |false=>
    have u: ∀(d:Nat) (os:Array Obj),Calls prog 63 #[.pointer (some ⟨op,0,none⟩)] (grow (redrawn w1 d) os) λe w'=>e= .returned (.bool true)/\Below (grow (redrawn w1 d) os).heap.size (grow (redrawn w1 d) os) w':=λd os=>
     (oU _ op _ st ((aq.o.c' U.o).c' (lm w1 d os))).mono λ_ _ h=>⟨h.1,by rw [<-h.2];exact g' _ _⟩
    have z:=g0 Y.o;go_wp2;refine m6 ?_
    repeat (first|go_big_quiet_step (exact ie (u _ _))|quiet_step (exact ie (u _ _)))
    refine lz ?_;intro w2 j;clear z u;obtain⟨G,ad⟩:=ik (d' U.o j) (b' j Y.o);clear j;have V:Hi (xu r true=1):=ak.o;go_wp2;go_ret2;rw [V.o];exact⟨λh=>UN,λ_=>⟨rfl,G.o⟩⟩
  |false=>
   cases aK with
   |true=>
    have u: ∀(d:Nat) (os:Array Obj),Calls prog 63 #[.pointer (some ⟨op,0,none⟩)] (grow (redrawn w1 d) os) λe w'=>e= .returned (.bool false)/\Below (grow (redrawn w1 d) os).heap.size (grow (redrawn w1 d) os) w':=λd os=>
     (oU _ op _ st ((aq.o.c' U.o).c' (lm w1 d os))).mono λ_ _ h=>⟨h.1,by rw [<-h.2];exact g' _ _⟩
    have z:=g0 Y.o;go_wp2;refine m6 ?_
    repeat (first|go_big_quiet_step (exact ie (u _ _))|quiet_step (exact ie (u _ _)))
    refine lz ?_;intro w2 j;clear z u;obtain⟨G,ad⟩:=ik (d' U.o j) (b' j Y.o);clear j;have V:Hi (xu r false=1):=ak.o;go_wp2;go_ret2;rw [V.o];exact⟨λh=>UN,λ_=>⟨rfl,G.o⟩⟩
   |false=>
    have u: ∀(d:Nat) (os:Array Obj),Calls prog 63 #[.pointer (some ⟨op,0,none⟩)] (grow (redrawn w1 d) os) λe w'=>e= .returned (.bool false)/\Below (grow (redrawn w1 d) os).heap.size (grow (redrawn w1 d) os) w':=λd os=>
     (oU _ op _ st ((aq.o.c' U.o).c' (lm w1 d os))).mono λ_ _ h=>⟨h.1,by rw [<-h.2];exact g' _ _⟩
    have z:=g0 Y.o;go_wp2;refine m6 ?_
    repeat (first|go_big_quiet_step (exact ie (u _ _))|quiet_step (exact ie (u _ _)))
    refine lz ?_;intro w2 j;clear z u;obtain⟨G,ad⟩:=ik (d' U.o j) (b' j Y.o);clear j;have V:Hi (xu r false=0):=Hd (by rw [ak.o];rfl);obtain⟨z,ai⟩:=a' ad.o;go_wp2_with fail;refine(Ak w2 r aC.o aD.o).mono ?_;rintro e ah⟨p,PI,pv,rfl,al,ao,ap,af⟩;have av:=Hd al
    have aj:Hi (∀k,iw p pv k->w.heap.size<=k):=λk K=>iu G.o.size (ao k K);have ay:Hi (∀k,PI k->w.heap.size<=k):=λk K=>iu G.o.size (ap k K);obtain⟨ab,az⟩:=ik (d' G.o af) (b' af ad.o);clear al ao ap af z ai;obtain⟨z,ai⟩:=a' az.o;have aP:= @xH prog;have ax:=Hd (AB aE.o ab.o (op:=op) aA.o av.o aj.o);have aw:=Hd (hd (hd ab.o (.map #[] 0)) (.cells #[.pointer (some ⟨op,0,none⟩),UZ r.mode,UZ r.depth,UZ r.bl,UZ r.bu,UZ r.qu,r.iz,UZ r.win,UZ r.fin,r.work,.map (some ah.heap.size),S0,.pointer (some ⟨p,0,none⟩),U0,I0] 79));have aQ:=ab.o.size;go_wp2;go_ret2;refine⟨λ_=>⟨ah.heap.size+1,PI,_,rfl,ax.o,λk K=> ?_,ay.o,aw.o⟩,λh=>absurd V.o h⟩;rcases K with e|e|e
    ·omega
    ·have aO:k=ah.heap.size:=e;omega
    ·exact aj.o k e
 ·have V:=Hd (ar.o.trans (g3 ae))
  obtain⟨y,hy⟩:=iF (qc r);have au:y≠0:=λe=>ae (hy.trans e);obtain⟨aN,aM⟩:=ik au hy;have aU:(y==0)=false:=(by rw [je];exact au);have aV:(y != 0)=true:=(by rw [iB];exact au);rw [show jK r.mode r.depth r.bl r.bu r.qu r.iz r.win r.fin r.work=y from hy];clear hy au ae ar;go_wp2;go_ret2;rw [V.o,aM.o];exact⟨λh=>absurd h aN.o,λ_=>⟨rfl,U.o⟩⟩
theorem sk.bound {S:UO}{p:Nat}{w:World}(h:sk S p w):sk (λk=>S k/\k<w.heap.size) p w:=by
 obtain⟨mk,z,y,h1,h2,j,u,s1,s2,s3,s4⟩:=h;exact⟨mk,z,y,h1,h2,j,u,⟨s1,ii h1⟩,⟨s2,ii h2⟩,⟨s3,ii j⟩,⟨s4,ii u⟩⟩
def IB (w:World)(e:Ending)(w':World):Prop:= ∃p,e= .returned (.pointer (some ⟨p,0,none⟩))/\sk (λk=>w.heap.size<=k) p w'/\BW w w'
theorem y' (w:World):Calls prog 65 #[] w (IB w):=by
 have y:= @xH prog;obtain⟨q1,q2,j,u⟩:=C2 w (.map #[] 0) (.map #[] 0) (.map #[] 0) (.cells #[false,U0,I0,S0,.map (some w.heap.size),.map (some (w.heap.size+1)),.map (some (w.heap.size+2))] 171);obtain⟨Q1,Q2,Q3,Q4⟩:=oX q1 q2 j u;clear q1 q2 j u;go_wp2;go_ret;exact⟨w.heap.size+3,US,⟨_,_,_,Q1.o,Q4.o,Q3.o,Q2.o,UE _ 3,g9 _,o9 _,UE _ 2⟩,hd (hd (hd (hd (g' _ _) _) _) _) _⟩
theorem GT (w:World):Calls prog 17 #[] w (IB w):=by
 go_in;go_wp2_with fail;refine(y' w).mono ?_;rintro e w1⟨p,rfl,h2,j⟩;go_wp2;go_ret;exact⟨p,rfl,h2,j⟩
def Ry (r:i4)(w:World)(e:Ending)(w':World):Prop:=
 ∃(c:Nat) (PI SB:UO) (v:p3),e= .returned (.tuple #[.pointer (some ⟨c,0,none⟩),.agg (UU r),true])/\j5 c SB PI w' r ⟨[],[],0,0⟩ [] v/\(∀k,jG c v k->w.heap.size<=k)/\(∀k,PI k->w.heap.size<=k)/\(∀k,SB k->w.heap.size<=k)/\BW w w'
theorem rS (w:World)(r:i4)(hm:r.mode=2)(he:qc r=0)(hr:iZ r.iz):
 Calls prog 7 #[.agg (p6 r)] w (Ry r w):=by
 have xq:=hd (jc w (.cells (p6 r) 26)) (.cells pn 39);have HX:=Hd (ji w (.cells (p6 r) 26) (.cells pn 39));obtain⟨HB,HE,HM,HRW⟩:=oX xq he hm hr;have HN:Hi (xu r false=0):=Hd (by unfold xu;rw [g7 he,hm];rfl);clear xq he hm hr;go_in;go_upto_region 1 with(fail);generalize (w.alloc (.cells (p6 r) 26)).alloc (.cells pn 39)=W at*
 go_cut [5,6]from 9 to 14 (λv5 v6 wc=>v6= I0/\ ∃(c:Nat) (SB PI:UO) (v:p3),v5= .pointer (some ⟨c,0,none⟩)/\Hi (j5 c SB PI wc r ⟨[],[],0,0⟩ [] v)/\Hi (∀k,jG c v k->W.heap.size<=k)/\Hi (∀k,PI k->W.heap.size<=k)/\Hi (∀k,SB k->W.heap.size<=k)/\Hi (BW W wc))
 case first=>
  obtain⟨x0,x1⟩:=a' HX.o.2
  go_region_law (first
   |(go_simp;go_at_call 17
     refine(GT W.drew).mono ?_;rintro e w1⟨op,rfl,ho,hb1⟩;have HB1:Hi (BW W w1):=d' (g' _ _).drew hb1;have O1:=Hd ho;obtain⟨x0,x1⟩:=a' (b' HB1.o HX.o.2);clear hb1 ho)
   |(go_simp;go_at_call 16
     refine(yW (λk=>W.heap.size<=k/\k<w1.heap.size) w1 op false 0 O1.o.at' r HRW.o (λk hk=>hk.2) (λ_=>O1.o.bound)).mono ?_;rintro e w2⟨hq, -⟩;obtain⟨c,PI,v,rfl,hat,hmu,hpi,hb2⟩:=hq HN.o;have HB2:Hi (BW W w2):=d' HB1.o hb2;have HAT:=Hd hat
     have sd:Hi (∀k,jG c v k->W.heap.size<=k):=λk hk=>iu HB1.o.size (hmu k hk);have OZ:Hi (∀k,PI k->W.heap.size<=k):=λk hk=>iu HB1.o.size (hpi k hk);clear hat hmu hpi hb2 hq))
  all_goals
   go_wp2;go_meet
   case rel=>exact⟨rfl,c,_,PI,v,rfl,HAT,sd,OZ,λk hk=>hk.1,HB2⟩
 obtain⟨rfl,c,SB,PI,v,rfl,HAT,sd,OZ,BT,HB2⟩:=hcut;obtain⟨w2,hw2⟩: ∃x,x=wc:=⟨_,rfl⟩;subst hw2;obtain⟨SR,tL,Sx⟩:=kT (d' HB.o HB2.o) (b' HB2.o HX.o.2) (b' HB2.o HX.o.1);obtain⟨x0,x1⟩:=a' tL.o;go_upto_region 2 with(fail);go_cut [7,8]from 15 to 20 (λv7 v8 wc=>v8= I0/\ ∃X3:Nat,v7= .pointer (some ⟨X3,0,none⟩)/\Hi (wc.heap[X3]? =some (Obj.cells (UU r) 39 (0,0)))/\Hi (BW w2 wc))
 case first=>
  go_wp2_with fail;refine UR (By w2 r HM.o HE.o) λw3 hb3=> ?_;go_wp2_with (refine kI rfl _ _ _ rfl w3.heap.size _ rfl rfl _ _ (gY w3 _) UQ rfl UQ ?_)
  go_meet
  case rel=>
   exact⟨rfl,w3.heap.size,rfl,kr _ _ _ _ _ _ (gY w3 (.cells pn 39)),below_setRow (g:=w3.heap.size) (hd hb3 (.cells pn 39)) hb3.size (UU r)⟩
 obtain⟨rfl,X3,rfl,R8,O7⟩:=hcut;obtain⟨w4,hw4⟩: ∃x,x=wc:=⟨_,rfl⟩;subst hw4;obtain⟨RM,Rx,O8⟩:=kT (b' O7.o Sx.o) (HAT.o.c' O7.o) (d' SR.o O7.o);clear x0 x1 O7;obtain⟨n0,n1⟩:=a' R8.o;go_upto_region 3 with(fail);refine wp_region_any UQ ?_
 change wpAny _ _ _ _ _ _ _ (World.drew _)
 refine qQ (i:=0) (v:= ?_) rfl UQ UQ UQ (λ_ _ _ h=>h) (lF ⟨by rfl,?_⟩) ?_;rotate_left
 ·intro w
  go_simp
  all_goals with_reducible rfl
 refine qQ (i:=2) (v:= ?_) rfl UQ UQ UQ (λ_ _ _ h=>h) (lF ⟨by rfl,?_⟩) ?_;rotate_left
 ·intro w
  go_simp
  all_goals with_reducible rfl
 refine qQ (i:=3) (v:= ?_) rfl UQ UQ UQ (λ_ _ _ h=>h) (lF ⟨by rfl,?_⟩) ?_;rotate_left
 ·intro w
  go_simp
  all_goals with_reducible rfl
 refine qQ (i:=4) (v:= ?_) rfl UQ UQ UQ (λ_ _ _ h=>h) (lF ⟨by rfl,?_⟩) ?_;rotate_left
 ·intro w
  go_simp
  all_goals with_reducible rfl
 refine qQ (i:=5) (v:= ?_) rfl UQ UQ UQ (λ_ _ _ h=>h) (lF ⟨by rfl,?_⟩) ?_;rotate_left
 ·intro w
  go_simp
  all_goals with_reducible rfl
 refine qQ (i:=6) (v:= ?_) rfl UQ UQ UQ (λ_ _ _ h=>h) (lF ⟨by rfl,?_⟩) ?_;rotate_left
 ·intro w
  go_simp
  all_goals with_reducible rfl
 refine qQ (i:=7) (v:= ?_) rfl UQ UQ UQ (λ_ _ _ h=>h) (lF ⟨by rfl,?_⟩) ?_;rotate_left
 ·intro w
  go_simp
  all_goals with_reducible rfl
 refine qQ (i:=8) (v:= ?_) rfl UQ UQ UQ (λ_ _ _ h=>h) (lF ⟨by rfl,?_⟩) ?_;rotate_left
 ·intro w
  go_simp
  all_goals with_reducible rfl
 go_simp;refine qQ (i:=9) (v:= ?_) rfl UQ UQ UQ (λ_ _ _ h=>h) (lF ⟨by rfl,?_⟩) ?_;rotate_left
 ·intro w
  go_simp
  all_goals with_reducible rfl
 refine qQ (i:=10) (v:= ?_) rfl UQ UQ UQ (λ_ _ _ h=>h) (lF ⟨by rfl,?_⟩) ?_;rotate_left
 ·intro w
  go_simp
  all_goals with_reducible rfl
 refine qQ (i:=11) (v:= ?_) rfl UQ UQ UQ (λ_ _ _ h=>h) (lF ⟨by rfl,?_⟩) ?_;rotate_left
 ·intro w
  go_simp
  all_goals with_reducible rfl
 refine qQ (i:=12) (v:= ?_) rfl UQ UQ UQ (λ_ _ _ h=>h) (lF ⟨by rfl,?_⟩) ?_;rotate_left
 ·intro w
  go_simp
  all_goals with_reducible rfl
 go_simp;refine wpAny_ready (rs:= [1]) UQ US ?_;refine AllReady.cons rfl (λK hK=> ?_) ?_;rotate_left
 ·exact AllReady.nil
 refine qA rfl _ _ rfl X3 rfl _ _ _ _ (b' (g' _ _).drew R8.o) underlying39 rfl UQ ?_;go_simp
 (refine hK _ _ ?_;clear hK K)
 refine wpAny_ready (rs:= [13]) UQ US ?_;refine AllReady.cons rfl (λK hK=> ?_) ?_;rotate_left
 ·exact AllReady.nil
 refine k6 rfl _ _ _ rfl (w.heap.size+1) _ rfl rfl _ _ (b' (g' _ _).drew RM.o) UQ rfl UQ ?_;go_simp
 (refine hK _ _ ?_;clear hK K)
 refine qQ (i:=14) (v:= ?_) rfl UQ UQ UQ (λ_ _ _ h=>h) (lF ⟨by rfl,?_⟩) ?_;rotate_left
 ·intro w
  go_simp
  all_goals with_reducible rfl
 go_simp;refine wpAny_done UQ ?_ _;have Tb:w.heap.size+1<W.heap.size:=ii HX.o.1;have hlt:w.heap.size<=w.heap.size+1:=o9 _;have hbz:=below_setRow (g:=w.heap.size+1) O8.o.drew hlt (UU r);have hdr:=Rx.o.c' (g' _ _).drew;have haz:=hdr.keep (i9 w4.drew (w.heap.size+1) (UU r)) (λk hk=>by have:=BT.o k hk;show k≠_;omega) (λk hk=>by have:=OZ.o k hk;show k≠_;omega) (λk hk=>by have:=sd.o k hk;show k≠_;omega);have hgz:(w4.drew.setRow (w.heap.size+1) (UU r)).heap[w.heap.size+1]? =some (Obj.cells (UU r) 39 (0,0)):=kr _ _ _ _ _ _ (b' (g' _ _).drew RM.o);have hsw:=HB.o.size;go_wp2_with fail
 (try simp only [Exit.inBlock,Exit.then])
 refine iQ (v:= .tuple #[.pointer (some ⟨c,0,none⟩),.agg (UU r),true]) ?_ rfl ⟨c,PI,_,v,rfl,haz,λk hk=>iu hsw (sd.o k hk),λk hk=>iu hsw (OZ.o k hk),λk hk=>iu hsw (BT.o k hk),hbz⟩;exact KD results7 rfl hgz underlying39 rfl UQ
end Go.Proofs.YtjdiofjjoefnhaaGreatDoor
