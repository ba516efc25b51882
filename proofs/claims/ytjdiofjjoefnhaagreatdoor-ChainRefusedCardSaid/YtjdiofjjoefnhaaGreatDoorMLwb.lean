/- The example of the laws of chains in plain Lean: three blocks on one another, and one that contradicts the final block. -/
import Derived.Test.YtjdiofjjoefnhaaGreatDoorChU
import Derived.Test.YtjdiofjjoefnhaaGreatDoorMSn
import Derived.Test.YtjdiofjjoefnhaaGreatDoorR47
set_option maxRecDepth 100000
set_option maxHeartbeats 2000000
namespace Go.Proofs.YtjdiofjjoefnhaaGreatDoor
open Go.ChangeShapes Go.WideShapes Go.ChangeAt Go.RowKit Go.Sort
def aR:i4:=⟨2,2,0,0,0,10,3,2,1⟩
def pid:Nat->Int
 |0=>0
 |1=>324815263302521486
 |2=>11917723101330525173
 |_=>13657388392579330896
def aB (k:Nat):hV:=⟨pid k,(k:Int)+1,5,1,0,[]⟩
def Pg:hV:=⟨0,1,6,1,0,[]⟩
theorem A5:iv (aB 0)=pid 1:=by decide+kernel
theorem xU:iv (aB 1)=pid 2:=by decide+kernel
theorem xT:iv (aB 2)=pid 3:=by decide+kernel
theorem MM:iv Pg=7264001096590840511:=by decide+kernel
theorem K4:iN aR.work (aB 0)=0:=by decide+kernel
theorem K3:iN aR.work (aB 1)=0:=by decide+kernel
theorem K2:iN aR.work (aB 2)=0:=by decide+kernel
theorem K1:iN aR.work Pg=0:=by decide+kernel
theorem K7:jF aR (jl aR []) (aB 0)=0:=by decide+kernel
theorem K6:jF aR (jl aR [aB 0]) (aB 1)=0:=by decide+kernel
theorem K5:jF aR (jl aR [aB 0,aB 1]) (aB 2)=0:=by decide+kernel
theorem KY:(jl aR [aB 0,aB 1,aB 2]).past.length=3:=by decide+kernel
def aS (k:Nat)(a:UP)(c:Nat):mB:=⟨pid (k+1),aB k,(k:Int)+1,a,c⟩
def O':Nat->k7->Prop
 |0,m=>m=⟨[],[],0,0⟩
 |1,m=> ∃a c,m=⟨[aS 0 a c],[pid 1],0,0⟩
 |2,m=> ∃a c j u,m=⟨[aS 0 a c,aS 1 j u],[pid 1,pid 2],0,0⟩
 |_,m=> ∃a c j u y z,m=⟨[aS 0 a c,aS 1 j u,aS 2 y z],[pid 1,pid 2,pid 3],pid 1,1⟩
theorem KX (k:Nat)(G:k<3)(m:k7)(h:O' k m):l' aR m (aB k)=0/\tO m (aB k)=0/\tP m (aB k)=1/\(∀j u,O' (k+1) (pk aR m (aB k) j u)):=by
 match k,G,h with
 |0,_,h=>
  obtain rfl:=h;refine⟨(sC (r:=aR) K4 rfl UQ UQ UQ).trans ?_,?_,?_,λj u=>⟨j,u,?_⟩⟩
  ·rw [show iG _ (iI _ (aB 0))= []from UQ];exact K7
  ·unfold tO rj;rw [A5];rfl
  ·unfold tP rj;rw [A5];rfl
  ·unfold pk oe rj;rw [A5];rfl
 |1,_,h=>
  obtain⟨a,c,rfl⟩:=h;refine⟨(sC (r:=aR) K3 (by rw [xU];rfl) UQ UQ UQ).trans ?_,?_,?_,λj u=>⟨a,c,j,u,?_⟩⟩
  ·rw [show iG _ (iI _ (aB 1))= [aB 0]from UQ];exact K6
  ·unfold tO rj;rw [xU];rfl
  ·unfold tP rj;rw [xU];rfl
  ·unfold pk oe rj;rw [xU];rfl
 |2,_,h=>
  obtain⟨a,c,y,z,rfl⟩:=h;refine⟨(sC (r:=aR) K2 (by rw [xT];rfl) UQ UQ UQ).trans ?_,?_,?_,λj u=>⟨a,c,y,z,j,u,?_⟩⟩
  ·rw [show iG _ (iI _ (aB 2))= [aB 0,aB 1]from UQ];exact K5
  ·unfold tO rj;rw [xT];rfl
  ·unfold tP rj;rw [xT];rfl
  ·unfold pk oe rj;rw [xT];rfl
theorem K0 (m:k7)(h:O' 3 m):l' aR m Pg=19/\r4 m=pid 3/\m.best.length=3/\m.hgt=1/\(jl aR (iG m.L m.best)).past.length=3:=by
 obtain⟨a,c,j,y,u,z,rfl⟩:=h;exact⟨xZ (r:=aR) K1 (by rw [MM];rfl) rfl rfl,rfl,rfl,rfl,KY⟩
theorem JS:oo aR:=⟨by decide,by decide,by decide,by decide,by decide,by decide,by decide,by decide,by decide,by decide⟩
theorem KZ:xu aR false=0:=by decide+kernel
theorem Es (k:Nat):iZ (pid k):=by
 match k with
 |0=>decide
 |1=>decide
 |2=>decide
 |_+3=>exact(by decide:iZ 13657388392579330896)
theorem CS (r:i4):lE r ⟨[],[],0,0⟩:=
 ⟨λe j=>by simp at j,λe j=>by simp at j,λe j=>by simp at j,λe j=>by simp at j,λe j=>by simp at j,lW.nil _,j6.nil r,g9 _,λh=>by simp at h⟩
theorem nF {c:Nat}{SB PI vf ob:UO}{v v':p3}{B:Nat}{w0 w w':World}(G:Below B w0 w)(u:B<=w.heap.size)(z: ∀k,jG c v k->B<=k)(j:lq c SB PI v w vf ob v' w'):Below B w0 w'/\B<=w'.heap.size/\ ∀k,jG c v' k->B<=k:=by
 refine⟨Kept.behind G j.kept u λk y h=> ?_,iu u j.kept.size,λk y=> ?_⟩
 ·have:=z k h;omega
 ·rcases j.turn k y with h|h
  ·exact z k h
  ·omega
theorem i7.empty (S:UO)(w:World){p h mi j:Int}(y:iZ p)(hh:zf h)(u:iZ mi)(hw:iZ j):i7 S w ⟨p,h,mi,j,0,[]⟩ none 0:=⟨y,hh,u,hw,(by decide:iZ 0),g4.nil⟩
open Tryz
theorem Aa (c:Nat)(SB PI:UO)(w:World)(m:k7)(v:p3)(j:j5 c SB PI w aR m (iG m.L m.best) v)(ok:lE aR m)(y:m.L.length<=100)(p h mi:Int)(z:iZ p)(hh:zf h)(u:iZ mi):
 Calls prog 8 #[.pointer (some ⟨c,0,none⟩),.agg #[p,UZ h,mi,U2 1,U0,S0]] w (Eu c SB PI v w aR m ⟨p,h,mi,1,0,[]⟩):=
 ry c SB PI w aR JS rfl m v j ok y (λ_=>False) ⟨p,h,mi,1,0,[]⟩ none 0 (i7.empty _ _ z hh u (by decide)) (λk h=>h.elim) (λt ht=>by simp at ht)
theorem MA (w:World)(p h mi:Int)(u:iZ p)(hh:zf h)(j:iZ mi):
 Calls prog 19 #[.agg #[p,UZ h,mi,U2 1,U0,S0]] w (Rt w (U2 (iv ⟨p,h,mi,1,0,[]⟩))):=
 t6 (λ_=>False) w ⟨p,h,mi,1,0,[]⟩ none 0 (i7.empty _ _ u hh j (by decide))
theorem Oi (k:Nat)(j:k<3):iv ⟨pid k,(k:Int)+1,5,1,0,[]⟩=pid (k+1):=by
 match k,j with
 |0,_=>exact A5
 |1,_=>exact xU
 |2,_=>exact xT
theorem nJ (w:World):Calls prog 5 #[] w (Rt w (.bool true)):=by
 go_in;go_wp2_with fail;refine(Ja w).mono ?_;rintro e w1⟨op,rfl, -,a0,hb1⟩;have aq:=Hd a0;clear a0;go_wp2_with fail;refine UR (Do w1) λw2 hb2=> ?_;go_wp2_with fail;refine(yW (λk=>k<w2.heap.size) w2 op false 0 (aq.o.c' hb2) aR (by decide) (λ_ h=>h) (λ_=>r'.Sn (aq.o.c' hb2))).mono ?_;rintro e br⟨z, -⟩;obtain⟨c,PI,v,rfl,aV,aY,bg,hb3⟩:=z KZ;obtain⟨y,aH⟩:=ik aV (d' (d' hb1 hb2) hb3);have G:Hi (∀k,jG c v k->w.heap.size<=k):=λk aX=>iu (d' hb1 hb2).size (aY k aX);clear aV aY bg hb1 hb2 hb3 z aq;go_wp2;go_loopw [3,28] (λbj bi wr=> ∃(k:Nat) (m:k7) (SB PI:UO) (v:p3),k<=3/\bi= UZ k/\bj= U2 (pid k)/\Hi (O' k m)/\Hi (lE aR m)/\Hi (m.L.length<=k)/\Hi (j5 c SB PI wr aR m (iG m.L m.best) v)/\Hi (∀j,jG c v j->w.heap.size<=j)/\Hi (BW w wr)) (λ_ bk _=>3-(intOf bk).toNat)
 case atStart=>exact⟨0,⟨[],[],0,0⟩,_,PI,v,UN,rfl,rfl,rfl,CS aR,g9 _,y,G,aH⟩
 case round=>
  clear y G aH;obtain⟨k,m,SB,PI,v,aX,rfl,rfl,ao,ag,af,y,G,ae⟩:=hrel;by_cases aT:k<3
  ·have aw:=jc wr (.cells #[(pid k),UZ ((k:Int)+1),U2 5,U2 1,U0,S0] 44)
   have V:=Hd (gY wr (.cells #[(pid k),UZ ((k:Int)+1),U2 5,U2 1,U0,S0] 44));obtain⟨aE,ap⟩:=ik (y.o.c' aw) (d' ae.o aw);have aP:Hi (¬jG c v wr.heap.size):=λbb=>pK _ (y.o.ki _ bb);have ax:=Es k;have bq:=Es (k+1);obtain⟨u,aO⟩:=ik (KX k aT m ao.o) (Oi k aT);clear aw y ao;go_upto_region 9 with(fail);generalize wr.alloc (.cells #[(pid k),UZ ((k:Int)+1),U2 5,U2 1,U0,S0] 44)=bp at*;obtain⟨X,aU⟩:=iF (wr.heap.size);rw [aU]at V aP⊢;clear aU ae;obtain⟨ai,aA⟩:=a' V.o;obtain⟨q,z⟩:=iF (pid k);have HQ:=Hd z;rw [z]at V ai ax aO⊢;clear z;go_wp2_with fail;refine(Aa c SB PI bp m v aE.o ag.o (by have:=af.o;omega) q ((k:Int)+1) 5 ax (by exact nw UN UN) (by decide)).mono ?_;rintro e az ah;have aN:Hi (aB k=⟨q,(k:Int)+1,5,1,0,[]⟩):=Hd (by unfold aB;rw [HQ.o]);rw [<-aN.o]at ah;rcases ah with⟨be, -⟩|⟨-,rfl,aC,aD,vf,ob,v',Y,K⟩
   ·exact absurd u.o.1 be
   rw [u.o.2.1,u.o.2.2.1];obtain⟨a2,aQ⟩:=ik (u.o.2.2.2 aC aD) (sub_zero u.o.1);have a6:=Hd (Ek ag.o (by decide) aQ.o (by intro t ht;exact absurd ht (by unfold aB;simp)) aC aD);have a4:Hi ((pk aR m (aB k) aC aD).L.length<=k+1):=Hd (by rw [xM,yo];have:=af.o;omega);obtain⟨ab, -,aZ⟩:=nF ap.o ap.o.size G.o K;obtain⟨aM,a5,aG,a8⟩:=oX ab aZ Y (hE K.kept V.o aP.o);clear Y K ab aZ aE ap G ag af aQ V ai aA u aN;obtain⟨ai,aA⟩:=a' a8.o;go_wp2_with fail;refine UR (MA az q ((k:Int)+1) 5 ax (nw UN UN) (by decide)) λa1 hb5=> ?_;rw [aO.o];obtain⟨ad,U⟩:=ik (aG.o.c' hb5) (d' aM.o hb5);clear hb5 aG aM ai aA;go_wp2;go_roundw
   case rel=>exact⟨k+1,_,vf,ob,v',UN,by go_num,rfl,a2,a6,a4,ad,a5,U⟩
   case measure=>exact UY
  ·obtain rfl:k=3:=UN
   have u:=Hd (K0 m ao.o);have bf:=Es 3;go_wp2_with fail;refine UR (FX c SB PI wr aR m (iG m.L m.best) v y.o (by have:=u.o.2.2.1;omega)) λaz ar=> ?_;rw [u.o.2.1,u.o.2.2.1];obtain⟨aj,aI⟩:=ik (y.o.c' ar) (d' ae.o ar);clear ar y ae;go_wp2_with fail;refine UR (Aw c SB PI az aR m (iG m.L m.best) v aj.o) λa1 hb5=> ?_;rw [u.o.2.2.2.1];obtain⟨ad,U⟩:=ik (aj.o.c' hb5) (d' aI.o hb5);clear hb5 aj aI;go_wp2_with fail;refine(Aa c SB PI a1 m v ad.o ag.o (by have:=af.o;omega) 0 1 6 (by decide) (by decide) (by decide)).mono ?_;rintro e bm ah;rcases ah with⟨-,rfl,ob,ay,Y,K⟩|⟨bh, -⟩
   rotate_left
   ·have a9:=u.o.1.symm.trans bh
    exact absurd a9 (by decide)
   rw [show l' aR m ⟨0,1,6,1,0,[]⟩=19 from u.o.1];obtain⟨ab, -, -⟩:=nF U.o U.o.size G.o K;obtain⟨aJ,ak,a7⟩:=kT ab Y u.o.2.2.2.2;clear Y K ab ad U G u;obtain⟨q,z⟩:=iF (pid 3);rw [z]at bf⊢;clear z;go_wp2_with fail;refine UR (tt c SB ob bm aR m (iG m.L m.best) { v with pv:=ay } ak.o) λbn au=> ?_;obtain⟨al,aK⟩:=ik (ak.o.c' au) (d' aJ.o au);clear au ak aJ;go_wp2_with fail;refine UR (tt c SB ob bn aR m (iG m.L m.best) { v with pv:=ay } al.o) λbo av=> ?_;obtain⟨aF,aL⟩:=ik (al.o.c' av) (d' aK.o av);clear av al aK;go_wp2_with fail;refine UR (BG v.p ob bo aR (jl aR (iG m.L m.best)) ay aF.o.state) λbt aW=> ?_;rw [a7.o];have a3:=Hd (d' aL.o aW);clear aW aF aL;go_wp2;go_ret;exact⟨rfl,a3.o⟩
end Go.Proofs.YtjdiofjjoefnhaaGreatDoor
