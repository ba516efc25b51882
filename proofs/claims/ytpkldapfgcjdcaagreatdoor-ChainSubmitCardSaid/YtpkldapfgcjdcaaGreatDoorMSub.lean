/- One block for the program's chain and for the reference's. -/
import Derived.Test.YtpkldapfgcjdcaaGreatDoorRsH
import Derived.Test.YtpkldapfgcjdcaaGreatDoorAgr
import Derived.Test.YtpkldapfgcjdcaaGreatDoorMSn
import Derived.Test.YtpkldapfgcjdcaaGreatDoorMLwb
import Derived.Test.YtpkldapfgcjdcaaGreatDoorMLw
import Derived.Test.YtpkldapfgcjdcaaGreatDoorMRp
set_option maxRecDepth 100000
set_option maxHeartbeats 4000000
namespace Go.Proofs.YtpkldapfgcjdcaaGreatDoor
open Tryz Go.ChangeShapes Go.WideShapes Go.ChangeAt Go.RowKit Go.Sort
theorem re {P:Program} {ops:Array Oper} {rest:List Oper} {o:Oper} {a:Act} {w:World} {Q:Exit->Act->World->Prop} (z:Region.wanted o (yielded ops a.tmps)=true) (ty:TypeId) (x:Operand) (G:o.op= .load ty x)
 (g:Nat) (U:a.eval x= .pointer (some ⟨g,0,none⟩)) (t:TypeId) (cs:Array Value) (fr:Nat×Nat) (d:TypeDesc) (y:w.heap[g]? =some (.cells cs t fr))
 (K:P.underlying ty=some d) (u:(match d with| .struct _| .array _ _=>true|_=>false)=true) (hi:(P.info? ty).map (·.size)=some cs.size)
 (h:wpList P ops Q rest (a.put o.dst (.agg cs)) w):wpList P ops Q (o::rest) a w:=
 wpList_step λV j=>by rw [g7 z];exact wp_load_row ty x G g U t cs fr d y K u hi (j _ _ h)
def A7 (r:i4)(m:k7)(b:hV)(j A E:Int)(u:k7):Prop:=
 l' r m b=E/\((E≠0/\j=0/\A=0/\u=m)\/(E=0/\j=tO m b/\A=tP m b/\ ∃(y:Option Addr) (z:Nat),u=pk r m b y z))
theorem A7.refl {r:i4}{m:k7}{b:hV}{j A E:Int}{u:k7}(_:A7 r m b j A E u):(E != E)=false/\(j != j)=false/\(A != A)=false:=⟨by simp,by simp,by simp⟩
def Ma (m:k7):Prop:= ∀e∈m.L,jq e.b=true
theorem Ma.sub {r:i4}{m:k7}{b:hV}(h:Ma m)(u:jq b=true)(y:Option Addr)(z:Nat):Ma (pk r m b y z):=λe j=>by
 rw [xM]at j;unfold oe at j;rcases List.mem_append.1 j with j|j
 ·exact h e j
 ·rw [List.mem_singleton]at j
  rw [j];exact u
theorem sD {b:hV}(h:jq b=true):(∀t∈b.hQ,t.marks.length<=100/\t.outs.length<=100/\t.proof.length<=1000000/\ ∀o∈t.outs,o.ha.length<=1000)/\(∀t∈b.hQ,t.proof.length<=1000000)/\b.hQ.length<=64:=by
 obtain⟨y,h⟩:=yt h;refine⟨λt ht=> ?_,λt ht=> ?_,by omega⟩
 ·obtain⟨h1,h2,z,j⟩:=h t ht
  exact⟨by omega,by omega,by omega,λo u=>by have:=j o u;omega⟩
 ·have:=(h t ht).2.2.1;omega
def Lc (c:Nat)(SB PI:Nat->Prop)(v:p3)(w:World)(r:i4)(m:k7)(b:hV)(e:Ending)(w':World):Prop:=
 ∃(u A E:Int) (j:k7) (vf ob:Nat->Prop) (v':p3),e= .returned (.tuple #[.int .i64 u,.int .i64 A,.int .i64 E])/\A7 r m b u A E j/\j5 c vf ob w' r j (iG j.L j.best) v'/\lq c SB PI v w vf ob v' w'/\lE r j/\Ma j/\j.L.length<=m.L.length+1
theorem sO (c:Nat)(SB PI:Nat->Prop)(w:World)(r:i4)(hr:oo r)(ab:r.mode=2)(m:k7)(v:p3)(h:j5 c SB PI w r m (iG m.L m.best) v)(ok:lE r m)(U:Ma m)(ad:m.L.length<=100)(S:Nat->Prop)(b:hV)(xa:Option Addr)(xc:Nat)(K:i7 S w b xa xc)(Y: ∀k,S k-> ¬jG c v k)(V:jq b=true):
 Calls prog 9 #[.pointer (some ⟨c,0,none⟩),.agg (jI b xa xc)] w (Lc c SB PI v w r m b):=
 (ry c SB PI w r hr ab m v h ok ad S b xa xc K Y (sD V).1).mono λ_ _ ae=>by
  rcases ae with⟨j,rfl,ob,af,u,y⟩|⟨j,rfl,z,G,vf,ob,v',u,y⟩
  ·exact⟨0,0,_,m,SB,ob,_,rfl,⟨rfl,.inl ⟨j,rfl,rfl,rfl⟩⟩,u,y,ok,U,o9 _⟩
  ·exact⟨_,_,0,_,vf,ob,v',rfl,⟨j,.inr ⟨rfl,rfl,rfl,z,G,rfl⟩⟩,u,y,Ek ok (by have:=hr.f0;omega) (sub_zero j) K.pos z G,U.sub V z G,by rw [xM,yo];exact g9 _⟩
def Ld (r:i4)(SP SB:Nat->Prop)(w:World)(u:k7)(j A E:Int)(e:Ending)(w':World):Prop:=
 ∃(rc:nL) (la:Option Addr) (lc:Nat),e= .returned (.tuple #[.agg (mE false r la lc rc),.int .i64 j,.int .i64 A,.int .i64 E])/\jf.rel (λk=>SP k\/SB k\/w.heap.size<=k) w' [.slice la rc.L.length lc] rc.L/\lD u rc/\BW w w'
theorem vz (SP SB:Nat->Prop)(w:World)(r:i4)(hr:oo r)(af:r.mode=2)(ad:r.depth<=11)(m:k7)(ok:lE r m)(rc:nL)(sm:lD m rc)(ae:m.L.length<=99)(la:Option Addr)(lc:Nat)(h:jf.rel SP w [.slice la rc.L.length lc] rc.L)(b:hV)(xa:Option Addr)(xc:Nat)(ab:i7 SB w b xa xc)(V:jq b=true){U A E:Int}{Y:k7}(y:A7 r m b U A E Y):
 Calls prog 10 #[.agg (mE false r la lc rc),.agg (jI b xa xc)] w (Ld r SP SB w Y U A E):=
 (Dy SP SB w r hr af ad m ok rc sm ae la lc h b xa xc ab (sD V).2.1 (sD V).2.2).mono λ_ _ ag=>by
  obtain⟨K,y⟩:=y;rcases ag with⟨z,rfl,u⟩|⟨z,ai,aj,rfl,ah,u⟩
  ·rcases y with⟨-,rfl,rfl,rfl⟩|⟨G, -⟩
   ·exact⟨rc,la,lc,by rw [K],jf.mono (jf.c' h u) λk _ j=> .inl j,sm,u⟩
   ·exact absurd (K.trans G) z
  ·rcases y with⟨G, -⟩|⟨rfl,rfl,rfl,ak,al,rfl⟩
   ·exact absurd (K.symm.trans z) G
   ·exact⟨ui r rc b,ai,aj,rfl,jf.mono ah (λk _ j=>by
     rcases j with⟨j|j, -⟩|j
     ·exact .inl j
     ·exact .inr (.inl j)
     ·exact .inr (.inr (by omega))),Kx sm ok (sub_zero z) (by have:=hr.f0;omega) ak al,u⟩
structure un (c:Nat)(SB PI:Nat->Prop)(w:World)(r:i4)(m:k7)(v:p3)(M:Nat)(SP:Nat->Prop)(rc:nL)(la:Option Addr)(lc:Nat):Prop where
 at':j5 c SB PI w r m (iG m.L m.best) v
 ok:lE r m
 sm:Ma m
 Gv:lD m rc
 box:w.heap[M]? =some (.cells (mE false r la lc rc) 39 (0,0))
 rows:jf.rel SP w [.slice la rc.L.length lc] rc.L
 apart: ∀k,SP k->k<w.heap.size/\ ¬jG c v k/\k≠M
 far: ¬jG c v M
 NO: ∀k,SB k->k≠M
 NP: ∀k,PI k->k≠M
section
variable {c M:Nat} {SB PI SP:Nat->Prop} {w w':World} {r:i4} {m:k7} {v:p3} {rc:nL} {la:Option Addr} {lc:Nat}
theorem un.c' (h:un c SB PI w r m v M SP rc la lc)(j:BW w w'):un c SB PI w' r m v M SP rc la lc:=
 ⟨h.at'.c' j,h.ok,h.sm,h.Gv,b' j h.box,jf.c' h.rows j,λk u=>⟨by have:=(h.apart k u).1;have:=j.size;omega,(h.apart k u).2⟩,h.far,h.NO,h.NP⟩
theorem un.step (h:un c SB PI w r m v M SP rc la lc){vf ob:Nat->Prop}{v':p3}(y:lq c SB PI v w vf ob v' w'):
 w'.heap[M]? =some (.cells (mE false r la lc rc) 39 (0,0))/\jf.rel SP w' [.slice la rc.L.length lc] rc.L/\(∀k,SP k->k<w'.heap.size/\ ¬jG c v' k/\k≠M)/\ ¬jG c v' M/\(∀k,vf k->k≠M)/\ ∀k,ob k->k≠M:=by
 have U:=ii h.box;have V:=y.kept.size;have K: ¬jG c v' M:=λz=>by
  rcases y.turn M z with h1|h1
  ·exact h.far h1
  ·omega
 refine⟨hE y.kept h.box h.far,jf.keep h.rows (y.kept.mono λk _ u=>(h.apart k u).2.1),λk u=> ?_,K,λk u=> ?_,λk u=> ?_⟩
 ·obtain⟨h1,h2,G⟩:=h.apart k u
  refine⟨by omega,λz=> ?_,G⟩;rcases y.turn k z with j|j
  ·exact h2 j
  ·omega
 ·rcases y.M' k u with j|j
  ·exact h.NO k j
  ·omega
 ·rcases y.MZ k u with j|j|j
  ·exact h.NP k j
  ·exact λe=>h.far (e▸j)
  ·omega
end
theorem vD {c M:Nat} {SB PI SP j:Nat->Prop} {w w2:World} {r:i4} {m:k7} {v:p3} {rc oW:nL} {la u:Option Addr} {lc y:Nat} (G:j5 c SB PI w r m (iG m.L m.best) v) (ok:lE r m) (aj:Ma m) (K:w.heap[M]? =some (.cells (mE false r la lc rc) 39 (0,0))) (ag: ∀k,SP k->k<w.heap.size/\ ¬jG c v k/\k≠M) (U: ¬jG c v M) (af: ∀k,j k-> ¬jG c v k/\k≠M) (ad: ∀k,SB k->k≠M) (ab: ∀k,PI k->k≠M)
 (Gv:lD m oW) (ai:jf.rel (λk=>SP k\/j k\/w.heap.size<=k) w2 [.slice u oW.L.length y] oW.L) (z:BW w w2):
 un c SB PI (w2.setRow M (mE false r u y oW)) r m v M (λk=>(SP k\/j k\/w.heap.size<=k)/\k<w2.heap.size) oW u y:=by
 have ak:=ii K;have al:=z.size;have ae:=G.c' z;have V:Kept (λk=>k≠M) w2 (w2.setRow M (mE false r u y oW)):=i9 _ _ _;have Y: ∀k,(SP k\/j k\/w.heap.size<=k)-> ¬jG c v k/\k≠M:=λk h=>by
  rcases h with h|h|h
  ·exact(ag k h).2
  ·exact af k h
  ·exact⟨λah=>by have:=G.ki k ah;omega,by omega⟩
 refine⟨ae.keep V (λk h=>ad k h) (λk h=>ab k h) (λk h e=>U (e▸h)),ok,aj,Gv,kr _ _ _ _ _ _ (b' z K),jf.keep (jf.bound ai) (V.mono λk _ h=>(Y k h.1).2),λk h=>⟨by rw [size_setRow];exact h.2,Y k h.1⟩,U,ad,ab⟩
theorem I4:lD ⟨[],[],0,0⟩ ⟨[], -1, -1⟩:=
 ⟨rfl,λk h=>by simp at h,λi j h=>by simp at h,λk h=>by simp at h,.inl ⟨rfl,rfl⟩,.inl ⟨rfl,rfl,rfl⟩⟩
theorem x' {c:Nat}{SB PI:Nat->Prop}{w:World}{r:i4}{v:p3}(j:j5 c SB PI w r ⟨[],[],0,0⟩ [] v)(cs:Array Value):
 un c SB PI ((w.alloc (.cells cs 39)).setRow w.heap.size #[false,U0,I0,S0,S0,S0,.int .i64 r.mode,.int .i64 r.depth,.int .i64 r.bl,.int .i64 r.bu,.int .i64 r.qu,r.iz,.int .i64 r.win,.int .i64 r.fin,r.work,S0,.int .i64 (-1),.int .i64 (-1)]) r ⟨[],[],0,0⟩ v w.heap.size (λ_=>False) ⟨[], -1, -1⟩ none 0:=
 ⟨j.c' (below_setRow (hd (g' _ _) _) (g9 _) _),CS r,λe y=>by simp at y,I4,kr _ _ _ _ _ _ (gY w _),g4.nil,λ_ h=>h.elim,λz=>pK _ (j.ki _ z),λk u=>by have:=j.lt k u;omega,λk u=>by have:=j.state.lt k u;omega⟩
theorem EA (w:World)(r:i4)(hrw:iZ r.iz)(l:List hV)(la:Option Addr)(lc:Nat)(h:mh.rel (λk=>k<w.heap.size) w [.slice la l.length lc] l):
 Calls prog 4 #[.agg (p6 r),.slice la l.length lc] w (Rt w (.bool true)):=by
 have g1:=(g4.lens h).2;unfold maxLen at g1;have xq:=jc w (.cells (p6 r) 26);have HX:=Hd (gY w (.cells (p6 r) 26));obtain⟨H,HB⟩:=ik (mh.c' h xq) xq;have BQ:Hi ((w.alloc (.cells (p6 r) 26)).heap.size=w.heap.size+1):=Hd (by rw [World.size_alloc]);clear xq h;go_enter func4,ntmps4;go_upto_region 1 with(fail);generalize w.alloc (.cells (p6 r) 26)=W at*;go_wp2_with fail;refine(nJ W).mono ?_;rintro e w1 ⟨rfl,hb1⟩;obtain⟨x0,x1⟩:=a' (b' hb1 HX.o);go_wp2_with fail;refine(q7 _ w1 r.mode r.depth r.bl r.bu r.qu r.iz r.win r.fin r.work l la lc 12 (mh.c' H.o hb1)).mono ?_;rintro e w2 ⟨rfl,hb2⟩;have HB2:=Hd (d' hb1 hb2);clear x0 x1 hb1 hb2;obtain⟨rt,hrt⟩:=iF (o5 r.mode r.depth r.bl r.bu r.qu r.iz r.win r.fin r.work l 12);have Lm:=Hd hrt;rw [hrt];clear hrt
 cases rt with
 |false=>
  go_wp2_with fail;refine(nJ w2).mono ?_;rintro e w3 ⟨rfl,hb3⟩;go_wp2_with fail;go_ret;exact⟨rfl,d' HB.o (d' HB2.o hb3)⟩
 |true=>
  have HRR:Hi ((∀b∈l,jq b=true)/\r.mode=2/\r.depth<=11/\l.length<=12/\qc r=0):=by
   have h1:=Lm.o;unfold o5 at h1;simp only [kg,iO]at h1;obtain⟨h2,h3,h5,h4⟩:=Bh h1.1;exact⟨h2,h3,by omega,by omega,h1.2⟩
  have Gy:=Hd HRR.o.2.1;have A2:Hi (r.depth<=11):=HRR.o.2.2.1;have vq:Hi (l.length<=12):=HRR.o.2.2.2.1;obtain⟨D3,Nf,Ig⟩:=kT (uB HRR.o.2.2.2.2 hrw) HRR.o.2.2.2.2 HRR.o.1;clear Lm HRR;obtain⟨x0,x1⟩:=a' (b' HB2.o HX.o);go_wp2_with fail;refine(rS w2 r Gy.o Nf.o hrw).mono ?_;rintro e w5 ⟨c,PI,SB,v,rfl,hat,hmu,hpi,hsb,hb5⟩;have HAT:=Hd hat
  have sd:Hi (∀k,jG c v k->W.heap.size<=k):=λk hk=>iu HB2.o.size (hmu k hk);have vR:=Hd (d' HB2.o hb5);clear x0 x1 hat hmu hpi hsb hb5 HB2;go_upto_region 4 with(refine kI rfl _ _ _ rfl w5.heap.size _ rfl rfl _ _ (gY w5 (.cells pn 39)) (by kernel_rfl) rfl (by kernel_rfl) ?_)
  obtain⟨w6,Lg,J5,H'⟩: ∃x,_=x/\Hi (BW W x)/\Hi (un c SB PI x r ⟨[],[],0,0⟩ v w5.heap.size (λ_=>False) ⟨[], -1, -1⟩ none 0):=
   ⟨_,rfl,d' vR.o (below_setRow (g:=w5.heap.size) (hd (g' _ _) (.cells pn 39)) (g9 _) #[false,U0,I0,S0,S0,S0,.int .i64 r.mode,.int .i64 r.depth,.int .i64 r.bl,.int .i64 r.bu,.int .i64 r.qu,r.iz,.int .i64 r.win,.int .i64 r.fin,r.work,S0,.int .i64 (-1),.int .i64 (-1)]),x' HAT.o pn⟩
  rw [Lg];obtain⟨M,hM⟩:=iF (w5.heap.size);have Lq:Hi (W.heap.size<=M):=Hd (by rw [<-hM];exact vR.o.size);rw [hM]at H'⊢;clear Lg hM vR HAT;go_wp2_with fail;go_loopw [35] (λvi wr=> ∃(k:Nat) (m:k7) (SB PI SP:Nat->Prop) (v:p3) (rc:nL) (ra:Option Addr) (rl:Nat),k<=l.length/\vi= .int .i64 k/\Hi (m.L.length<=k)/\Hi (un c SB PI wr r m v M SP rc ra rl)/\Hi (∀j,jG c v j->W.heap.size<=j)/\Hi (BW W wr)) (λvi _=>l.length-(intOf vi).toNat)
  case atStart=>exact⟨0,⟨[],[],0,0⟩,SB,PI,λ_=>False,v,⟨[], -1, -1⟩,none,0,iy _,rfl,g9 _,H',sd,J5⟩
  case round=>
   clear H' sd J5;obtain⟨k,m,SB,PI,SP,v,rc,ra,rl,hk,rfl,BX,zN,sd,D8⟩:=hrel;by_cases hlt:k<l.length
   ·as_aux_lemma=>
    obtain⟨bb,off,xa,xc,rfl,hbl,hb,c0,c1,c2,c3,c4,c5⟩:=xo (mh.c' H.o D8.o) k hlt;have BT:Hi (jq l[k]=true):=Ig.o _ (List.getElem_mem hlt);obtain⟨b,hbq⟩:=iF (l[k]);rw [hbq]at hb c0 c1 c2 c3 c4 c5 BT;clear hbq;have hbn:=jc wr (.cells (jI b xa xc) 44);have HXB:=Hd (gY wr (.cells (jI b xa xc) 44));obtain⟨rT,HB1,D7⟩:=kT (zN.o.c' hbn) (d' D8.o hbn) (hb.c' hbn);have H8:Hi (wr.heap.size≠M/\ ¬jG c v wr.heap.size):=⟨by have:=ii zN.o.box;omega,λhm=>pK _ (zN.o.at'.ki _ hm)⟩;clear hbn zN D8 hb;go_upto_region 9 with(fail);clear c0 c1 c2 c3 c4 c5;generalize wr.alloc (.cells (jI b xa xc) 44)=wn at*;obtain⟨X,hX⟩:=iF (wr.heap.size);rw [hX]at HXB H8⊢;clear hX;go_wp2_with (first|(refine kf rfl _ _ rfl X rfl _ _ _ _ HXB.o underlying44 rfl (by kernel_rfl) ?_))
    refine(sO c SB PI wn r D3.o Gy.o m v rT.o.at' rT.o.ok rT.o.sm (by have:=BX.o;have:=vq.o;omega) _ b xa xc D7.o (λj hj hm=>by have h1:=sd.o j hm;have h2:=BQ.o;have h3:j<w.heap.size:=hj;omega) BT.o).mono ?_;rintro e wa ⟨U,A,E,m',vf,ob,v',rfl,hres,B4,hst',hok',BZ,Id⟩;obtain⟨hbz,hza,hmz⟩:=nF HB1.o HB1.o.size sd.o hst';obtain⟨hbx,hro,hap,hfa,hfs,hfp⟩:=rT.o.step hst';obtain⟨H5,FA,Lp,HAT,J2,Lk,xt,BU⟩:=Mb hres hbz hmz B4 hok' BZ hbx hro;obtain⟨Ly,Lt,Lr,Ls,Ln,Ll⟩:=J1 hap hfa hfs hfp rT.o.ok rT.o.Gv;have J3:Hi (m.L.length<=99):=Hd (by have:=BX.o;have:=vq.o;omega);have B9:Hi (m'.L.length<=k+1):=Hd (by have:=BX.o;omega);have tL:=Hd (hE hst'.kept HXB.o H8.o.2);have B':=Hd (D7.o.keep (hst'.kept.mono λj _ hj hm=>by have h1:=sd.o j hm;have h2:=BQ.o;have h3:j<w.heap.size:=hj;omega));have Lx:Hi (∀j,j<w.heap.size-> ¬jG c v' j/\j≠M):=λj hj=>⟨λhm=>by have h1:=hmz j hm;have h2:=BQ.o;omega,by have h2:=BQ.o;have h4:=Lq.o;omega⟩;clear hres hbz hza hmz B4 hst' hok' BZ Id hbx hro hap hfa hfs hfp rT HB1 sd BX D7 HXB;go_upto_region 12 with(fail);go_wp2_with (first|(refine kf rfl _ _ rfl M rfl _ _ _ _ xt.o underlying39 rfl (by kernel_rfl) ?_)|(refine kf rfl _ _ rfl X rfl _ _ _ _ tL.o underlying44 rfl (by kernel_rfl) ?_))
    refine(vz SP (λj=>j<w.heap.size) wa r D3.o Gy.o A2.o m Ln.o rc Ll.o J3.o ra rl BU.o b xa xc B'.o BT.o H5.o).mono ?_;rintro e wb ⟨oW,AR,AQ,rfl,B3,B0,hb2⟩;obtain⟨xr,J',Lw⟩:=kT (vD HAT.o J2.o Lk.o xt.o Ly.o Lt.o Lx.o Lr.o Ls.o B0 B3 hb2) (below_setRow (g:=M) (d' FA.o hb2) Lq.o (mE false r AR AQ oW)) (b' hb2 xt.o);clear B3 B0 hb2 HAT J2 Lk xt BU Ly Lt Lr Ls Ln Ll J3 tL B' Lx FA H8 BT;go_upto_region 13 with(first|(refine kI rfl _ _ _ rfl M _ rfl rfl _ _ Lw.o (by kernel_rfl) rfl (by kernel_rfl) ?_))
    generalize wb.setRow M (mE false r AR AQ oW)=wc at*;obtain⟨z1,z2,z3⟩:=H5.o.refl;have z4:(0:Int)<=0:=vS _;go_wp2_with (first|(refine re (by rfl) _ _ rfl M rfl _ _ _ _ xr.o.box underlying39 rfl (by kernel_rfl) ?_))
    refine(AK c vf ob wc r m' _ v' xr.o.at' xr.o.ok oW xr.o.Gv _ false AR AQ xr.o.rows (by have:=B9.o;have:=vq.o;omega) xr.o.sm).mono ?_;rintro e wd ⟨rfl,hbd⟩;obtain⟨M6,Ka⟩:=ik (xr.o.c' hbd) (d' J'.o hbd);clear hbd xr J' Lw H5 z1 z2 z3 z4;go_wp2_with fail;go_roundw
    case rel=>exact⟨k+1,m',vf,ob,_,v',oW,AR,AQ,by omega,by go_num,B9,M6,Lp,Ka⟩
    case measure=>simp [intOf];omega
   ·obtain rfl:k=l.length:=by omega
    go_wp2_with fail;go_ret;exact⟨rfl,d' HB.o D8.o⟩
end Go.Proofs.YtpkldapfgcjdcaaGreatDoor
