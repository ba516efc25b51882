/- The reference: New of a state, State of a chain. -/
import Derived.Test.YtjdiofjjoefnhaaGreatDoorRsD
set_option maxRecDepth 100000
set_option maxHeartbeats 8000000
namespace Go.Proofs.YtjdiofjjoefnhaaGreatDoor
open Tryz Go.ChangeShapes Go.WideShapes Go.ChangeAt Go.RowKit Go.Sort
theorem G4 {r:i4}(hr:oo r)(z:r.depth<=11)(w':World):Calls prog 91 #[UZ r.depth,S0] w' λe y=>e= .returned (U2 (mT (mf r.depth.toNat) r.depth.toNat))/\BW w' y:=by
 obtain⟨D,j⟩: ∃D:Nat,r.depth=D:=lv (by have:=hr.d0;omega);have u:D<=11:=UN
 rw [j,jJ,vB (Bg D) (iy _) u];exact vE (λ_=>False) w' D UN none 0 [] g4.nil (iy _)
theorem G3 {r:i4}(hr:oo r)(j:r.depth<=11):iZ (mT (mf r.depth.toNat) r.depth.toNat):=by
 rw [vB (Bg _) (iy _) (by have:=hr.d0;omega)];exact D5 (Cq [] (λx h=>by simp at h) _ 0)
structure O9 (B1:Nat)(l1:List Value)(w':World):Prop where
 c1: ∀i,w'.cell? ⟨B1,i,none⟩=(List.toArray l1)[i]?
theorem O9.range {B1:Nat}{l1:List Value}{w':World}(h:O9 B1 l1 w'):w'.rangeAt B1 0 l1:=λj v u=>by rw [nC,h.c1];simpa using u
theorem ET (w:World)(r:i4)(hr:oo r)(V:r.depth<=11):
 Calls prog 52 #[.agg (p6 r)] w λe w'=> ∃v:ug,e= .returned (.agg (ij r (sg r) v))/\nc (λk=>w.heap.size<=k) w' (sg r) v/\BW w w':=by
 have af:=hd (jc w (.cells (p6 r) 26)) (.cells mo 58);have ad:=Hd (ji w (.cells (p6 r) 26) (.cells mo 58)).2;have aq:=Hd (ji w (.cells (p6 r) 26) (.cells mo 58)).1;have ah:=Hd af;have ag:((w.alloc (.cells (p6 r) 26)).alloc (.cells mo 58)).heap.size=w.heap.size+2:=by rw [U4,U4]
 have ap:=Hd ag;obtain⟨j,z⟩:=iF (mT (mf r.depth.toNat) r.depth.toNat);have ao:=Hd z;have al:Hi (iZ j):=Hd (by rw [<-z];exact G3 hr V);have aj:Hi (∀w',Calls prog 91 #[UZ r.depth,S0] w' λe ay=>e= .returned (U2 j)/\BW w' ay):=λw'=>by
  rw [<-z];exact G4 hr V w'
 clear af ag z hr V;go_in;go_upto_region 1 with(fail);generalize (w.alloc (.cells (p6 r) 26)).alloc (.cells mo 58)=W at*
 refine qS (S:=O9 w.heap.size (UW r)) UQ (⟨(a' ad.o).1⟩) (λhHeld=> ?_);go_simp;refine kL 1 ?_;go_simp;refine Gu 2 rfl (λaz U=>by have c1:=U.c1;go_simp;all_goals with_reducible rfl) ?_;go_simp;refine xp 0 rfl (pe (by rfl) _ _ rfl (w.heap.size) (0) rfl (UW r) _ (λaz U=>U.range) underlying26 rfl UQ) ?_;go_simp;refine l8 3 rfl (λy u=> ?_);go_simp;refine UR (aj.o _) λw1 hb1=> ?_;have G:=d' (Br W).drew hb1;obtain⟨ab,K,ae⟩:=kT G (b' G ad.o) (b' G aq.o);have av:O9 w.heap.size (UW r) w1:=⟨(a' K.o).1⟩;clear hb1 G;clear hHeld;refine u.out _ _ (av) (λhHeld=> ?_);clear u y;go_simp;refine l8 4 rfl (λy u=> ?_);go_simp;refine u.out _ _ (⟨(a' (iq K.o)).1⟩) (λhHeld=> ?_);clear u y;go_simp;refine kL 5 ?_;go_simp;refine l8 6 rfl (λy u=> ?_);refine k6 rfl _ _ _ rfl (w.heap.size+1) _ rfl rfl _ _ (iq ae.o) UQ rfl UQ ?_;refine u.out _ _ (⟨(a' (by rw [setRow_other _ _ _ _ UN];exact iq K.o)).1⟩) (λhHeld=> ?_);clear u y hHeld;go_simp;refine mA UQ ?_ _
 obtain⟨w2,ax,ar,ai,ak⟩: ∃q,(w1.alloc (.cells #[j] 24)).setRow (w.heap.size+1) (ij r ⟨mf r.depth.toNat,[],[],[],0,[j],[]⟩ (ug.mk none 0 none 0 none 0 (some ⟨w1.heap.size,0,none⟩) 1))=q/\Hi (q.heap[w.heap.size+1]? =some (.cells (ij r ⟨mf r.depth.toNat,[],[],[],0,[j],[]⟩ (ug.mk none 0 none 0 none 0 (some ⟨w1.heap.size,0,none⟩) 1)) 58 (0,0)))/\Hi (BW w q)/\Hi (gZ.rel (λk=>w.heap.size<=k) q [.slice (some ⟨w1.heap.size,0,none⟩) 1 1] [j]):=
  ⟨_,rfl,kr _ _ _ _ _ _ (iq ae.o),below_setRow (hd (d' ah.o ab.o) _) UN _,by
   have h1:=ab.o.size;have h2:=ap.o;have au:=(Own.Nk w1 j al.o w.heap.size UN).slice;exact gZ.mono (gZ.keep au ((i9 _ _ _).mono λk _ Y=>by have aw:w1.heap.size<=k:=Y;show k≠_;omega)) λk _ Y=>by have aw:w1.heap.size<=k:=Y;show _<=k;omega⟩
 (try simp only [Exit.then])
 go_wp2_with fail;subst ax;refine iQ (v:= .agg (ij r ⟨mf r.depth.toNat,[],[],[],0,[j],[]⟩ (ug.mk none 0 none 0 none 0 (some ⟨w1.heap.size,0,none⟩) 1))) (results_cell_row rfl _ _ (w.heap.size+1) _ _ _ _ rfl ar.o underlying58 rfl UQ) rfl ?_;have e:sg r=⟨mf r.depth.toNat,[],[],[],0,[j],[]⟩:=by unfold sg;rw [ao.o]
 rw [e];exact⟨(ug.mk none 0 none 0 none 0 (some ⟨w1.heap.size,0,none⟩) 1),rfl,⟨g4.nil,g4.nil,g4.nil,ir (by show(0:Int)<=0;omega) (by show(0:Int)<_;omega),ak.o⟩,ai.o⟩
theorem Fa {P:UO}{w:World}{len cap:Nat}{l:List Int}{b o:Nat}(h:jS.rel P w [.slice (some ⟨b,o,none⟩) len cap] l)(k:Nat)(u:k<l.length):P b:=by
 obtain⟨y,off,es,e,j, -⟩:=g4.at h k u;simp only [pd,qd]at e;obtain⟨rfl, -, -⟩:=e;exact j
theorem GK {P:UO}{w:World}{len cap:Nat}{l:List qb}{b o:Nat}(h:jf.rel P w [.slice (some ⟨b,o,none⟩) len cap] l)(k:Nat)(u:k<l.length):P b:=by
 obtain⟨y,off,es,e,j, -⟩:=g4.at h k u;simp only [pd,qd]at e;obtain⟨rfl, -, -⟩:=e;exact j
theorem w8.mono {S S':UO}{w:World}{s:qb}{xa:UP}{xc:Nat}(h:w8 S w s xa xc)(j: ∀k,k<w.heap.size->S k->S' k):w8 S' w s xa xc:=
 ⟨⟨h.blk.parent,h.blk.f',h.blk.hJ,h.blk.work,h.blk.e',my.mono h.blk.hQ j⟩,h.id,h.par,h.jy⟩
def kO (L:List qb)(l:List Int):List hV:=l.map λp=>(L.getD p.toNat rU).b
theorem yn (L:List qb)(l:List Int)(q:Nat)(h:q<(kO L l).length)(h2:q<l.length):(kO L l)[q]=(L.getD (l[q]).toNat rU).b:=by
 have e: ∀(j:q<(l.map λp=>(L.getD p.toNat rU).b).length),(l.map λp=>(L.getD p.toNat rU).b)[q]'j=(L.getD (l[q]).toNat rU).b:=λ_=>Ul _;exact e h
theorem zs {r:i4}{bs:List hV}{i:Nat}(hi:i<bs.length):jl r (bs.take (i+1))=lX r (jl r (bs.take i)) bs[i]:=by
 rw [z4 hi,l5]
structure zm (r:i4)(C:Array Value)(w0:World)(X:Nat)(SP:UO)(la:UP)(lc:Nat)(L:List qb)(wa:UP)(wc:Nat)(l:List Int)(s:j8)(v:ug)(w:World):Prop where
 cc:w.heap[w0.heap.size]? =some (.cells C 39 (0,0))
 cr:w.heap[w0.heap.size+1]? =some (.cells vs 58 (0,0))
 cx:w.heap[X]? =some (.cells (ij r s v) 58 (0,0))
 data:nc (λj=>j<w0.heap.size\/(w0.heap.size+2<=j/\j≠X)) w s v
 tK:jf.rel (λj=>SP j/\j<w0.heap.size) w [.slice la L.length lc] L
 way:jS.rel (λj=>w0.heap.size+2<=j/\j≠X) w [.slice wa l.length wc] l
 mx:BW w0 w
 lo:w0.heap.size+2<=X
 hi:X<w.heap.size
section
variable {r:i4} {C:Array Value} {w0 w w':World} {X:Nat} {SP:UO} {la wa:UP} {lc wc:Nat} {L:List qb} {l:List Int} {s s2:j8} {v v2:ug}
theorem zm.c' (h:zm r C w0 X SP la lc L wa wc l s v w)(j:BW w w'):zm r C w0 X SP la lc L wa wc l s v w':=
 ⟨b' j h.cc,b' j h.cr,b' j h.cx,h.data.c' j,jf.c' h.tK j,jS.c' h.way j,h.mx.trans (j.mono (by have:=h.lo;have:=h.hi;omega)),h.lo,jg h.hi j.size⟩
theorem zm.row (h:zm r C w0 X SP la lc L wa wc l s v w)(y:nc (λj=>j<w0.heap.size\/(w0.heap.size+2<=j/\j≠X)) w s2 v2):zm r C w0 X SP la lc L wa wc l s2 v2 (w.setRow X (ij r s2 v2)):=by
 have z:=h.lo;exact⟨by rw [setRow_other _ _ _ _ UN];exact h.cc,by rw [setRow_other _ _ _ _ UN];exact h.cr,kr _ _ _ _ _ _ h.cx,y.keep ((i9 _ _ _).mono λk _ u=>by show k≠_;omega),jf.keep h.tK ((i9 _ _ _).mono λk _ u=>by have h1:=u.2;show k≠_;omega),jS.keep h.way ((i9 _ _ _).mono λk _ u=>u.2),below_setRow h.mx UN _,h.lo,by rw [Uy];exact h.hi⟩
end
structure L' (B1:Nat)(l1:List Value)(b2 o2:Nat)(v2:Value)(b3 o3:Nat)(l3:List Value)(w':World):Prop where
 c1: ∀i,w'.cell? ⟨B1,i,none⟩=(List.toArray l1)[i]?
 c2:w'.cell? ⟨b2,o2,none⟩=some v2
 r3:w'.rangeAt b3 o3 l3
theorem L'.next {B1 b2 o2 b3 o3:Nat}{l1 l3:List Value}{v2:Value}{w w':World}(h:L' B1 l1 b2 o2 v2 b3 o3 l3 w)(u:B1<w.heap.size)(j:BW w w'):L' B1 l1 b2 o2 v2 b3 o3 l3 w':=
 ⟨λi=>by rw [<-h.c1 i];exact TL (w:=w) (j.block B1 u),s7 j h.c2,mj h.r3 j⟩
theorem L'.row {B1 b2 o2 b3 o3 g:Nat}{l1 l3:List Value}{v2:Value}{w:World}(h:L' B1 l1 b2 o2 v2 b3 o3 l3 w)(h1:B1≠g)(h2:b2≠g)(u:b3≠g)(cs:Array Value):L' B1 l1 b2 o2 v2 b3 o3 l3 (w.setRow g cs):=
 ⟨λi=>by rw [<-h.c1 i];exact TL (w:=w) (setRow_other w g _ cs h1),by rw [<-h.c2];exact TL (w:=w) (setRow_other w g _ cs h2),λj v y=>by
  rw [<-h.r3 j v y];exact TL (w:=w) (setRow_other w g _ cs u)⟩
theorem rO (SP:UO)(w:World)(pi:Bool)(r:i4)(hr:oo r)(NL:r.depth<=11)(m:nL)(la:UP)(lc:Nat)(h:jf.rel SP w [.slice la m.L.length lc] m.L)(hp:xJ m.L)(hl:m.L.length<=100)(i:Int)(hi: -1<=i)(hi2:i<m.L.length)(hrun:j6 r (kO m.L (js m.L m.L.length i))):
 Calls prog 13 #[.agg (mE pi r la lc m),UZ i] w λe w'=> ∃v:ug,e= .returned (.agg (ij r (jl r (kO m.L (js m.L m.L.length i))) v))/\nc (λ_=>True) w' (jl r (kO m.L (js m.L m.L.length i))) v/\BW w w':=by
 have xq:=hd (jc w (.cells (mE pi r la lc m) 39)) (.cells mo 58);have HX:=Hd (ji w (.cells (mE pi r la lc m) 39) (.cells mo 58)).2;have HY:=Hd (ji w (.cells (mE pi r la lc m) 39) (.cells mo 58)).1;have HB:=Hd xq;have hsz:((w.alloc (.cells (mE pi r la lc m) 39)).alloc (.cells mo 58)).heap.size=w.heap.size+2:=by rw [U4,U4]
 have OX:=Hd hsz;have H5:Hi (jf.rel (λj=>SP j/\j<w.heap.size) ((w.alloc (.cells (mE pi r la lc m) 39)).alloc (.cells mo 58)) [.slice la m.L.length lc] m.L):=jf.c' (jf.bound h) xq;obtain⟨HR,A2,Mw,H9,RN,SG⟩:=J1 hr NL hrun (pR m.L m.L.length i) (sB hp m.L.length i hi hi2) hp;have Tl:Hi (jf.rel SP w [.slice la m.L.length lc] m.L):=h;clear xq hsz h hr NL hrun hp;go_in;go_upto_region 1 with(fail);generalize ((w.alloc (.cells (mE pi r la lc m) 39)).alloc (.cells mo 58))=W at*
 have RP:Hi (W.rangeAt w.heap.size 6 (UW r)):=λj v hv=>by
  have hc:=(a' HX.o).1
  match j with
  |0=>simp at hv;subst hv;rw [hc];rfl
  |1=>simp at hv;subst hv;rw [hc];rfl
  |2=>simp at hv;subst hv;rw [hc];rfl
  |3=>simp at hv;subst hv;rw [hc];rfl
  |4=>simp at hv;subst hv;rw [hc];rfl
  |5=>simp at hv;subst hv;rw [hc];rfl
  |6=>simp at hv;subst hv;rw [hc];rfl
  |7=>simp at hv;subst hv;rw [hc];rfl
  |8=>simp at hv;subst hv;rw [hc];rfl
  |j+9=>simp at hv
 go_wp2_with (refine wpList_load_mid rfl _ _ rfl w.heap.size 6 rfl (UW r) _ RP.o underlying26 rfl UQ ?_)
 refine(ET W r HR.o A2.o).mono ?_;rintro e w1⟨v,rfl,hd1,hb1⟩;obtain⟨HD1,HB1⟩:=ik hd1 hb1;clear hd1 hb1 RP;go_upto_region 2 with(refine kI rfl _ _ _ rfl w1.heap.size _ rfl rfl _ _ (gY w1 (.cells mo 58)) UQ rfl UQ ?_);obtain⟨W2,hW2⟩:=iF ((w1.alloc (.cells mo 58)).setRow w1.heap.size (ij r (sg r) v));have hbn:=jc w1 (.cells mo 58);have hsw:=HB1.o.size;have hs0:=OX.o;have hkr:=i9 (w1.alloc (.cells mo 58)) w1.heap.size (ij r (sg r) v);have Pq:Hi (W2.heap[w.heap.size]? =some (.cells (mE pi r la lc m) 39 (0,0))):=Hd (by rw [<-hW2,setRow_other _ _ _ _ UN];exact iq (b' HB1.o HX.o));have HR2:Hi (W2.heap[w.heap.size+1]? =some (.cells mo 58 (0,0))):=Hd (by rw [<-hW2,setRow_other _ _ _ _ UN];exact iq (b' HB1.o HY.o));have tL:Hi (W2.heap[w1.heap.size]? =some (.cells (ij r (sg r) v) 58 (0,0))):=Hd (by rw [<-hW2];exact kr _ _ _ _ _ _ (gY w1 _));have HS2:Hi (nc (λj=>w.heap.size+2<=j/\j≠w1.heap.size) W2 (sg r) v):=by
  show nc _ _ _ _;rw [<-hW2];exact((HD1.o.mono (S':=λj=>W.heap.size<=j/\j<w1.heap.size) λk hk h=>⟨h,hk⟩).c' hbn).keep (hkr.mono λk _ hk=>by have h1:=hk.2;show k≠_;omega) |>.mono λk _ hk=>⟨by have:=hk.1;omega,by have:=hk.2;omega⟩
 have Pn:Hi (jf.rel (λj=>SP j/\j<w.heap.size) W2 [.slice la m.L.length lc] m.L):=by
  show jf.rel _ _ _ _;rw [<-hW2];exact jf.keep (jf.c' H5.o (d' HB1.o hbn)) (hkr.mono λk _ hk=>by have h1:=hk.2;show k≠_;omega)
 have HB2:Hi (BW w W2):=by show Below _ _ _;rw [<-hW2];exact below_setRow (hd (d' HB.o HB1.o) _) UN _
 have HZ2:Hi (w1.heap.size<W2.heap.size):=ii tL.o;obtain⟨X,hX⟩:=iF (w1.heap.size);have M5:Hi (w.heap.size+2<=X):=Hd UN;rw [hW2];rw [hX]at tL HS2 HZ2⊢;clear hW2 hX hbn hsw hs0 hkr HB1 HD1 HX HY HB H5 OX;go_wp2_with (refine kf rfl _ _ rfl w.heap.size rfl _ _ _ _ Pq.o underlying39 rfl UQ ?_)
 refine(q6 _ pi r m la lc SG.o m.L.length W2 i hi2 hi hi2 UN Pn.o).mono ?_;rintro e w3⟨vw,rfl,how,hb3⟩;obtain⟨wa,wc,rfl, -, -⟩:=iW how;obtain⟨l,hlq⟩:=iF (js m.L m.L.length i);rw [hlq]at how Mw H9 RN⊢
 have HA:Hi (zm r (mE pi r la lc m) w X SP la lc m.L wa wc l (jl r ((kO m.L l).take 0)) v w3):=
  ⟨b' hb3 Pq.o,b' hb3 HR2.o,b' hb3 tL.o,(HS2.o.c' hb3).mono λk _ hk=> .inr hk,jf.c' Pn.o hb3,jS.mono how.slice λk _ hk=>⟨by have h1:=M5.o;have h2:=HZ2.o;have h3:W2.heap.size<=k:=hk;omega,by have h2:=HZ2.o;have h3:W2.heap.size<=k:=hk;omega⟩,HB2.o.trans (hb3.mono (HB2.o.size)),M5.o,jg HZ2.o hb3.size⟩
 have J4:Hi ((kO m.L l).length=l.length):=by show(List.map _ _).length=_;rw [TC]
 have SK:=Hd hlq;clear hlq how hb3 Pq HR2 tL HS2 Pn HB2 HZ2;go_wp2;go_loopw [7] (λvi wr=> ∃(k:Nat) (v:ug),k<=l.length/\vi= UZ k/\Hi (zm r (mE pi r la lc m) w X SP la lc m.L wa wc l (jl r ((kO m.L l).take k)) v wr)) (λvi _=>l.length-(intOf vi).toNat)
 case atStart=>exact⟨0,v,iy _,rfl,HA⟩
 case round=>
  clear HA;obtain⟨q,v,hk,rfl,HA⟩:=hrel;obtain⟨wk,hwk⟩: ∃x,x=wr:=⟨_,rfl⟩;subst hwk;by_cases hlt:q<l.length
  ·as_aux_lemma=>
   obtain⟨b0,o0,rfl, -,hi0⟩:=ints_at HA.o.way q hlt;have hB0:=Fa HA.o.way q hlt;have hmem:=RN.o _ (z3 hlt);obtain⟨p,hpq⟩: ∃p:Nat,l[q]=p:=⟨l[q].toNat,UN⟩;have hpl:p<m.L.length:=UN;obtain⟨b1,o1,xa,xc,rfl, -,hin,c0,c1,c2,c3,c4,c5, -⟩:=o4 HA.o.tK p hpl;have hB1:=GK HA.o.tK p hpl;have OP:q<(kO m.L l).length:=(by rw [J4.o];exact hlt);have hbq:(kO m.L l)[q]=m.L[p].b:=by
    rw [yn _ _ _ OP hlt,hpq,jJ,lA _ _ hpl]
   obtain⟨Kf,hap⟩:=Mw.o q OP;rw [hbq]at Kf hap;have hsucc:=zs (r:=r) OP;rw [hbq]at hsucc;have hrt:=Mw.o.take q;have hf:=mC HR.o _ _ rfl hrt;have hlen:((kO m.L l).take q).length=q:=(by rw [Tq];omega);obtain⟨NY,NU,N0,NV⟩:=oX hf.ok (Ii HR.o _ _ rfl hrt) hf.up hf.past;have R0:Hi (400*((kO m.L l).take q).length<=80000):=Hd (by rw [hlen];have:=H9.o;omega);have NW:Hi (((kO m.L l).take q).length<=100000):=Hd (by rw [hlen];have:=H9.o;omega);rw [hpq]at hi0;obtain⟨HI0,zM,Sc⟩:=kT hi0 (Mz c0 c1 c2 c3 c4 c5) hin.blk;obtain⟨bl,hbl⟩:=iF (m.L[p].b);rw [hbl]at zM Sc Kf hap hsucc;obtain⟨Rf,Sd,RO⟩:=kT Kf.hQ hap hsucc;have RY:Hi (b0≠X/\b1≠X):=⟨hB0.2,by have h1:=hB1.2;have h2:=HA.o.lo;omega⟩;have OU:Hi (w.heap.size+2<=X/\X<wk.heap.size):=⟨HA.o.lo,HA.o.hi⟩;obtain⟨SO,HX,HD⟩:=kT HA.o.cc HA.o.cx HA.o.data;obtain⟨bs,hbs⟩:=iF ((kO m.L l).take q);rw [hbs]at HA NY NU N0 NV R0 NW Sd RO HX HD;have i0:(0:Int)<=(q:Int):=UN;have i1:(q:Int)<(l.length:Int):=UN;have j0:(0:Int)<=(p:Int):=UN;have j1:(p:Int)<(m.L.length:Int):=UN;clear hi0 hB0 hmem hpq hin c0 c1 c2 c3 c4 c5 hB1 hbq Kf hap hsucc hrt hf hlen hbl hbs OP;go_upto_region 6 with(fail);refine qS (S:=L' (w.heap.size) [pi,U0,I0,S0,S0,S0,UZ r.mode,UZ r.depth,UZ r.bl,UZ r.bu,UZ r.qu,r.iz,UZ r.win,UZ r.fin,r.work,.slice (some ⟨b1,o1,none⟩) m.L.length lc,UZ m.lh,UZ m.fin] b0 (o0+q) (UZ p) b1 (o1+p*9) [bl.parent,UZ bl.f',bl.hJ,bl.work,bl.e',.slice xa bl.hQ.length xc]) UQ (⟨(a' SO.o).1,HI0.o,zM.o⟩) (λhHeld=> ?_);go_simp;refine kL 1 ?_;go_simp;refine Gu 2 rfl (λwz hSz=>by have c1:=hSz.c1;go_simp;all_goals with_reducible rfl) ?_;go_simp;refine kL 3 ?_;go_simp;refine kL 4 ?_;go_simp;refine kL 5 ?_;go_simp;refine Gu 6 rfl (λwz hSz=>by have c2:=hSz.c2;go_simp;all_goals with_reducible rfl) ?_;go_simp;refine kL 7 ?_;go_simp;refine kL 8 ?_;go_simp;refine xp 9 rfl (pe (by rfl) _ _ rfl (b1) (o1+p*9) rfl [bl.parent,UZ bl.f',bl.hJ,bl.work,bl.e',.slice xa bl.hQ.length xc] _ (λwz hSz=>hSz.r3) underlying44 rfl UQ) ?_;go_simp;refine l8 0 rfl (λK hK=> ?_);refine qA rfl _ _ rfl X rfl _ _ _ _ (b' (Br wk).drew HX.o) underlying58 rfl UQ ?_;refine hK.out _ _ hHeld (λhHeld=> ?_);clear hK K;go_simp;refine l8 10 rfl (λK hK=> ?_);go_simp;refine(rC _ _ r HR.o A2.o (jl r bs) v (HD.o.c' (Br wk).drew) _ NY.o (by have:=R0.o;omega) NU.o N0.o (by have h1:=NV.o;have h2:=NW.o;omega) _ bl xa xc (Sc.o.c' (Br wk).drew) Rf.o).mono ?_;rintro e w5⟨s2,v2,rfl,hgood,hb5⟩;have Mu:=d' (Br wk).drew hb5;obtain⟨Sb,vR,OV⟩:=kT (hgood Sd.o) Mu (b' Mu HX.o);have hS5:=hHeld.next (by have h1:=OU.o.1;have h2:=OU.o.2;exact jg UN (Br wk).drew.size) hb5;clear hb5 Mu hgood;clear hHeld;refine hK.out _ _ (hS5) (λhHeld=> ?_);clear hK K;go_simp;refine kL 11 ?_;go_simp;refine kL 12 ?_;go_simp;refine kL 13 ?_;go_simp;refine l8 14 rfl (λK hK=> ?_);refine k6 rfl _ _ _ rfl X _ rfl rfl _ _ OV.o UQ rfl UQ ?_;refine hK.out _ _ (hHeld.row (by have:=OU.o.1;omega) RY.o.1 RY.o.2 _) (λhHeld=> ?_);clear hK K hHeld;go_simp;refine mA UQ ?_ _;obtain⟨w7,hw7⟩:=iF (w5.setRow X (ij r s2 v2));obtain⟨hx2,hd2⟩:=Sb.o;have ST:Hi (zm r #[pi,U0,I0,S0,S0,S0,UZ r.mode,UZ r.depth,UZ r.bl,UZ r.bu,UZ r.qu,r.iz,UZ r.win,UZ r.fin,r.work,.slice (some ⟨b1,o1,none⟩) m.L.length lc,UZ m.lh,UZ m.fin] w X SP (some ⟨b1,o1,none⟩) lc m.L (some ⟨b0,o0,none⟩) wc l (jl r ((kO m.L l).take (q+1))) v2 w7):=by
    show zm _ _ _ _ _ _ _ _ _ _ _ _ _ _;rw [<-hw7,RO.o,<-hx2];exact(HA.o.c' vR.o).row (hd2.mono λj _ hj=>by have h1:wT _ wk.heap.size j:=hj;have h2:=OU.o;show j<_\/_;rcases h1 with⟨h1, -⟩|h1;exact h1;exact .inr ⟨UN,UN⟩)
   rw [hw7];clear hw7 hx2 hd2 Sb HA vR OV;have hwq:wrap64 ((q:Int)+1)=(q:Int)+1:=(by have:=H9.o;unfold wrap64;omega);go_wp2;go_roundw
   case rel=>exact⟨q+1,v2,UN,by go_num,ST⟩
   case measure=>first|(rw [hwq];exact rW hlt (pb q))|exact rW hlt (pb q)
  ·as_aux_lemma=>
   obtain rfl:q=l.length:=UN;have Rz:(kO m.L l).take l.length=kO m.L l:=TK (by rw [J4.o];exact g9 _);rw [Rz]at HA;clear Rz hlt hk
   go_wp2_with (first
    |(refine kf rfl _ _ rfl X rfl _ _ _ _ HA.o.cx underlying58 rfl UQ ?_)
    |(refine kI rfl _ _ _ rfl (w.heap.size+1) _ rfl rfl _ _ HA.o.cr UQ rfl UQ ?_))
   (try simp only [Exit.inBlock,Exit.then])
   refine iQ (v:= .agg (ij r (jl r (kO m.L l)) v)) (results_cell_row rfl _ _ (w.heap.size+1) _ _ _ _ rfl (kr _ _ _ _ _ _ HA.o.cr) underlying58 rfl UQ) rfl ?_;have hlo:=HA.o.lo;rw [SK.o];exact⟨v,rfl,(HA.o.data.keep ((i9 wk (w.heap.size+1) _).mono λk _ hk=>by have h1:k<w.heap.size\/(w.heap.size+2<=k/\k≠X):=hk;show k≠w.heap.size+1;omega)).mono λ_ _ _=>trivial,below_setRow HA.o.mx UN _⟩
end Go.Proofs.YtjdiofjjoefnhaaGreatDoor
