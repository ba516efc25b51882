/- The reference's chain: Tips. -/
import Derived.Test.YtjdiofjjoefnhaaGreatDoorMRc
import Derived.Test.YtjdiofjjoefnhaaGreatDoorMSrt
set_option maxRecDepth 100000
set_option maxHeartbeats 4000000
namespace Go.Proofs.YtjdiofjjoefnhaaGreatDoor
open Tryz Go.ChangeShapes Go.WideShapes Go.ChangeAt Go.RowKit Go.Sort
def B7 (L:List qb)(n:Nat)(x:Int):Prop:= ∃(i:Nat) (hi:i<L.length),i<n/\L[i].id=x/\ ∀(k:Nat) (j:k<L.length),L[k].par≠(i:Int)
theorem z9 {L:List qb}{i:Nat}(hi:i<L.length)(x:Int):B7 L (i+1) x↔B7 L i x\/(L[i].id=x/\ ∀(k:Nat) (y:k<L.length),L[k].par≠(i:Int)):=by
 constructor
 ·rintro⟨j,u,hlt,h1,h2⟩
  rcases kZ j i with h|h
  ·exact .inl ⟨j,u,h,h1,h2⟩
  ·obtain rfl:j=i:=UN
   exact .inr ⟨h1,h2⟩
 ·rintro(⟨j,u,hlt,h1,h2⟩|⟨h1,h2⟩)
  ·exact⟨j,u,UN,h1,h2⟩
  ·exact⟨i,hi,UN,h1,h2⟩
theorem Own.Nk (w:World)(y:Int)(hy:iZ y)(base:Nat)(j:base<=w.heap.size):Own ib base 24 (λk=>w.heap.size<=k) (w.alloc (.cells #[y] 24)) (.slice (some ⟨w.heap.size,0,none⟩) 1 1) [y]:=
 ⟨λ_=>False,[[y]],λ_ h=>h.elim,λk h=>⟨λh=>h,by simp [Value.ownBlock]at h;omega⟩,rfl,λi cs x h1 h2=>by
  match i with
  |0=>simp at h1 h2;subst h1 h2;exact⟨rfl,hy⟩
  |i+1=>simp at h1,
  ⟨by simp [j9],.inr ⟨w.heap.size,1,#[y],rfl,j,gY w _,g9 _,by unfold maxLen;omega,by simp [j9],rfl⟩⟩⟩
theorem yK {T:List Int}{a:Nat}{x:Int}(h:T.Pairwise (· < ·))(h1: ∀y∈T.take a,y<x)(h2: ∀y∈T.drop a,x<y):(T.take a++([x]++T.drop a)).Pairwise (· < ·):=by
 refine UF.2 ⟨h.sublist (List.take_sublist _ _),UF.2 ⟨List.pairwise_singleton _ _,h.sublist (List.drop_sublist _ _),λp j q z=> ?_⟩,λp j q z=> ?_⟩
 ·rw [TD]at j;subst j;exact h2 q z
 ·rcases Ti.1 z with u|u
  ·rw [TD]at u;subst u;exact h1 p j
  ·have G:=h1 p j
   have K:=h2 q u;omega
theorem F9 {T:List Int}{a:Nat}{x y:Int}:y∈T.take a++([x]++T.drop a)↔y∈T\/y=x:=by
 rw [Ti,Ti,TD];constructor
 ·rintro(h|rfl|h)
  ·exact .inl (TV h)
  ·exact .inr rfl
  ·exact .inl (TQ h)
 ·rintro(h|rfl)
  ·rw [<-Tp a T,Ti]at h
   rcases h with h|h
   ·exact .inl h
   ·exact .inr (.inr h)
  ·exact .inr (.inl rfl)
theorem Ar {T:List Int}(h:T.Pairwise (· < ·)){a:Nat}{x:Int}(u:a<T.length)(V: ¬T[a]<x)(G:x∉T): ∀y∈T.drop a,x<y:=by
 intro y hy;obtain⟨j,z,rfl⟩:=TH hy;rw [Ug];rw [Ts]at z;have K:T[a]≠x:=λe=>G (e▸z3 u);rcases vU j with rfl|U
 ·simp only [xE];omega
 ·have:=TP.1 h a (a+j) u UN UN
  omega
theorem Ir {S:UO}{w:World}{b off:Nat}{len cap:Nat}{l:List qb}(h:jf.rel S w [.slice (some ⟨b,off,none⟩) len cap] l)(k:Nat)(u:k<l.length):w.cell? ⟨b,off+k*9+6,none⟩=some (U2 l[k].id):=by
 obtain⟨y,z,xa,xc,e, -, -, -, -, -, -, -, -,j, -⟩:=o4 h k u;simp only [pd,qd]at e;obtain⟨rfl,rfl, -⟩:=e;exact j
theorem mD (l:List Int)(k:Nat)(h:k<l.length):l.getD k 0=l[k]:=by rw [U5,z2 h];rfl
def BY (T:List Int)(a:Nat)(y:Int):Bool:=decide (a<T.length/\T.getD a 0<y)
theorem Ex (S:UO)(w:World)(pi:Bool)(r:i4)(m:nL)(la:UP)(lc:Nat)(h:jf.rel S w [.slice la m.L.length lc] m.L)(hl:m.L.length<=10000)(hu: ∀(i j:Nat) (hi:i<m.L.length) (hj:j<m.L.length),m.L[i].id=m.L[j].id->i=j):
 Calls prog 58 #[.agg (mE pi r la lc m)] w λe w'=> ∃v T,e= .returned v/\Own ib w.heap.size 24 (λk=>w.heap.size<=k) w' v T/\T.Pairwise (· < ·)/\(∀x,x∈T↔B7 m.L m.L.length x)/\T.length<=m.L.length/\BW w w':=by
 have g1:=(g4.lens h).2;unfold maxLen at g1;have xq:=jc w (.cells (mE pi r la lc m) 39);have HX:=Hd (gY w (.cells (mE pi r la lc m) 39));obtain⟨H,HB⟩:=ik (jf.c' h xq) xq;clear xq h;have HU:=Hd hu;clear hu;go_in;go_upto_region 1 with(fail);generalize w.alloc (.cells (mE pi r la lc m) 39)=W at*;go_wp2;go_loopw [3,4] (λvo vi wr=> ∃(i:Nat) (T:List Int),i<=m.L.length/\vi= UZ i/\Hi (Own ib W.heap.size 24 (λx=>W.heap.size<=x) wr vo T)/\Hi (T.Pairwise (· < ·))/\Hi (∀x,x∈T↔B7 m.L i x)/\T.length<=i/\BW W wr) (λ_ vi _=>m.L.length-(intOf vi).toNat)
 case atStart=>exact⟨0,[],iy _,rfl,Own.nil _ _ _ _ _,T',λx=>⟨λh=>by simp at h,fun⟨_,_,h,_⟩=>absurd h (pf _)⟩,g9 _,g' _ _⟩
 case round=>
  obtain⟨i,T,hi,rfl,HO,HP,HM,Sq,hbr⟩:=hrel;obtain⟨wo,hwo⟩: ∃x,x=wr:=⟨_,rfl⟩;subst hwo;obtain⟨oa,oc,rfl,hoc, -⟩:=iW HO.o;have M8:=Hd hbr;clear hbr;obtain⟨x0,x1⟩:=a' (b' M8.o HX.o);by_cases hil:i<m.L.length
  ·go_wp2
   go_loopw [5,6] (λvl vk wr=> ∃(k:Nat) (b:Bool),k<=m.L.length/\vk= UZ k/\vl= .bool b/\Hi (b=true↔ ∀(j:Nat) (hj:j<m.L.length),j<k->m.L[j].par≠(i:Int))/\BW wo wr) (λ_ vk _=>m.L.length-(intOf vk).toNat)
   case atStart=>exact⟨0,true,iy _,rfl,rfl,⟨λ_ j _ h=>absurd h (pf _),λ_=>rfl⟩,g' _ _⟩
   case round=>
    obtain⟨k,b,hk,rfl,rfl,HB2,hb2⟩:=hrel;obtain⟨wi,hwi⟩: ∃x,x=wr:=⟨_,rfl⟩;subst hwi;clear x0 x1;obtain⟨x0,x1⟩:=a' (b' (d' M8.o hb2) HX.o);by_cases hkl:k<m.L.length
    ·obtain⟨b3,o3,xa,xc,rfl, -,hb,d0,d1,d2,d3,d4,d5,d6,d7,d8⟩:=o4 (jf.c' H.o (d' M8.o hb2)) k hkl
     have HY:Hi (m.L[k].par=i-> ¬ ∀(j:Nat) (hj:j<m.L.length),j<k+1->m.L[j].par≠(i:Int)):=λe h=>h k hkl UN e;have HZ:Hi (m.L[k].par≠i->(b=true↔ ∀(j:Nat) (hj:j<m.L.length),j<k+1->m.L[j].par≠(i:Int))):=λe=>by
      rw [HB2.o];constructor
      ·intro h j hj hjk
       rcases kZ j k with h1|h1
       ·exact h j hj h1
       ·obtain rfl:j=k:=UN
        exact e
      ·intro h j hj hjk
       exact h j hj UN
     generalize m.L[k].par=p at*
     have i0:(0:Int)<=(k:Int):=UN;have i1:(k:Int)<(m.L.length:Int):=UN;clear d0 d1 d2 d3 d4 d5 d6 d8 hb;by_cases hp:p=(i:Int)
     ·have z1:(p==(i:Int))=true:=by simpa using hp
      have Sy:=Hd (HY.o hp);clear hp HY HZ HB2;go_wp2;go_roundw
      case rel=>exact⟨k+1,false,UN,by go_num,rfl,⟨λh=>(by simp at h),λh=>absurd h Sy.o⟩,hb2⟩
      case measure=>exact UY
     ·have z1:(p==(i:Int))=false:=by simpa using hp
      have HZ1:=Hd (HZ.o hp);clear hp HY HZ HB2;go_wp2;go_roundw
      case rel=>exact⟨k+1,b,UN,by go_num,rfl,HZ1,hb2⟩
      case measure=>exact UY
    ·obtain rfl:k=m.L.length:=UN
     have O6:Hi (b=true↔ ∀(j:Nat) (hj:j<m.L.length),m.L[j].par≠(i:Int)):=by
      show _↔_;rw [HB2.o];exact⟨λh j hj=>h j hj hj,λh j hj _=>h j hj⟩
     clear HB2;obtain⟨RT,Ps⟩:=ik (HO.o.c' hb2) (d' M8.o hb2);clear hb2 HO M8
     cases b with
     |false=>
      have Ni:Hi (∀x,x∈T↔B7 m.L (i+1) x):=λx=>by
       rw [HM.o x,z9 hil];constructor
       ·exact .inl
       ·rintro(h|⟨-,h⟩)
        ·exact h
        ·exact absurd (O6.o.2 h) US
      clear O6 HM;go_wp2;go_roundw
      case rel=>exact⟨i+1,T,UN,by go_num,RT,HP,Ni,UN,Ps.o⟩
      case measure=>exact UY
     |true=>
      have RZ:=Hd (O6.o.1 rfl);clear O6;obtain⟨b3,o3,xa,xc,rfl, -,hb,d0,d1,d2,d3,d4,d5,d6,d7,d8⟩:=o4 (jf.c' H.o Ps.o) i hil;have R':=Hd hb.id;have RX:Hi (m.L[i].id∉T):=λhmem=>by
       obtain⟨j,hj,hji,he, -⟩:=(HM.o _).1 hmem;have:=HU.o j i hj hil he;omega
      have Ni:Hi (∀x,x∈T\/x=m.L[i].id↔B7 m.L (i+1) x):=λx=>by
       rw [HM.o x,z9 hil];constructor
       ·rintro(h|h)
        ·exact .inl h
        ·exact .inr ⟨h.symm,RZ.o⟩
       ·rintro(h|⟨h, -⟩)
        ·exact .inl h
        ·exact .inr h.symm
      obtain⟨y,hyq⟩:=iF (m.L[i].id);rw [hyq]at RX Ni R';have RL:=Hd hyq;clear d0 d1 d2 d3 d4 d5 d6 d7 d8 hb RZ HM hyq;have i0:(0:Int)<=(i:Int):=UN;have i1:(i:Int)<(m.L.length:Int):=UN;go_wp2;go_loopw [7] (λva wr=> ∃a:Nat,a<=T.length/\va= UZ a/\Hi (∀z∈T.take a,z<y)/\BW wi wr) (λva _=>T.length-(intOf va).toNat)
      case atStart=>exact⟨0,iy _,rfl,λz h=>by simp at h,g' _ _⟩
      case round=>
       obtain⟨a,hat,rfl,HL,hb4⟩:=hrel;obtain⟨wj,So⟩: ∃x,x=wr:=⟨_,rfl⟩;subst So;obtain⟨Pr,RS,Qb⟩:=kT (d' Ps.o hb4) (RT.o.c' hb4) hb4;clear x0 x1 hb4;go_upto_region 13 with(fail);go_cut [47]from 31 to 49 (λv47 wc=>v47= .bool (BY T a y)/\Hi (BW wj wc))
       case first=>
        have d6:=Ir (jf.c' H.o Pr.o) i hil;rw [RL.o]at d6;have x0:=g0 (b' Pr.o HX.o);have y6:=hW d6;clear d6;by_cases OR:a<T.length
        ·obtain⟨bt,ot,rfl, -, -, -,hct⟩:=il RS.o.slice a OR
         have OW:Hi (BY T a y=decide (T[a]<y)):=Hd (by unfold BY;rw [mD T a OR];simp [OR]);obtain⟨z,hz⟩:=iF (T[a]);rw [hz]at hct OW;have z0:=hW hct;have z1:decide ((a:Int)<(T.length:Int))=true:=iP UN;have a0:(0:Int)<=(a:Int):=UN;have a1:(a:Int)<(T.length:Int):=UN;clear hct hz;go_wp2;refine m6 ?_
         repeat (first|go_big_quiet_step (fail)|quiet_step (fail))
         refine lz ?_;intro wq Ms;clear x0 y6 z0;go_wp2;go_meet
         case rel=>exact⟨by rw [OW.o],Ms⟩
        ·have OW:Hi (BY T a y=false):=by show _=_;unfold BY;exact iH λh=>OR h.1
         have z1:decide ((a:Int)<(T.length:Int))=false:=iH UN;go_wp2;refine m6 ?_
         repeat (first|go_big_quiet_step (fail)|quiet_step (fail))
         refine lz ?_;intro wq Ms;clear x0 y6;go_wp2;go_meet
         case rel=>exact⟨by rw [OW.o],Ms⟩
       obtain⟨rfl,hbc⟩:=hcut;obtain⟨O5,RR⟩:=ik (d' Pr.o hbc.o) (RS.o.c' hbc.o);have SS:Hi (BW wi wc):=d' Qb.o hbc.o
       cases htb:BY T a y with
       |true=>
        have h1:a<T.length/\T.getD a 0<y:=(by unfold BY at htb;rwa [jk]at htb);have h2:=h1.2;rw [mD T a h1.1]at h2;have Mc:Hi (∀z∈T.take (a+1),z<y):=λz hz=>by
         rw [z4 h1.1,Ti,TD]at hz;rcases hz with h3|rfl
         ·exact HL.o z h3
         ·exact h2
        have ha1:=h1.1;clear h1 h2 htb hbc HL;go_wp2;go_roundw
        case rel=>exact⟨a+1,UN,by go_num,Mc,SS.o⟩
        case measure=>first|(simp [intOf];done)|(simp [intOf];omega)
       |false=>
        have HDR:Hi (∀z∈T.drop a,y<z):=by
         rcases kZ a T.length with h1|h1
         ·exact Ar HP.o h1 (λh=>by
           unfold BY at htb;rw [pg]at htb;exact htb ⟨h1,by rw [mD T a h1];exact h⟩) RX.o
         ·intro z hz
          rw [TM h1]at hz;simp at hz
        have rT:=Hd (yK HP.o HL.o HDR.o);have D4:Hi (∀x,x∈T.take a++([y]++T.drop a)↔B7 m.L (i+1) x):=λx=>(by rw [F9];exact Ni.o x);have J9:Hi ((T.take a).length=a/\(T.drop a).length=T.length-a):=⟨by rw [Tq];omega,by rw [Ts]⟩;have O2:Hi ((T.take a++([y]++T.drop a)).length<=i+1):=Hd (by rw [U3,U3,J9.o.1,J9.o.2];simp;omega);obtain⟨x0,x1⟩:=a' (b' O5.o HX.o);have d6:=Ir (jf.c' H.o O5.o) i hil;rw [RL.o]at d6;obtain⟨Ks,Mx⟩:=ik (xk RR.o.slice a hat) (RR.o.cut a hat);obtain⟨P,hP⟩:=iF (T.take a);obtain⟨R,hR⟩:=iF (T.drop a);rw [hP,hR]at rT D4 J9 O2;rw [hP]at Mx;rw [hR]at Ks;have hrs:=λw=>AS w oa T.length oc a hat
        have a0:(0:Int)<=(a:Int):=UN;have a1:(a:Int)<=(T.length:Int):=UN;have a2:a<=oc:=UN;have a3:(a:Int)<=(oc:Int):=UN;obtain⟨q,hq⟩:=iF (H2 oa a oc);rw [hq]at Ks hrs;obtain⟨lr,hlr⟩:=iF (T.length-a);rw [hlr]at Ks hrs J9;obtain⟨Z,hZ⟩:=iF ([y]++R);rw [hZ]at rT D4 O2;have HZ:=Hd hZ;obtain⟨Y,hY⟩:=iF (P++Z);rw [hY]at rT D4 O2;have HY:=Hd hY;have M4:Hi (Z.length=lr+1):=Hd (by rw [<-hZ,U3,J9.o.2,TF];omega);have SQ:=Hd Mx.o.bound;have O3:Hi (lr<=10000/\a<=10000):=(by constructor<;>omega);clear hP hR hq htb hbc HL HDR Ni HP hlr hZ hY Mx;have hWc:=O5.o.size;go_wp2_with fail
        go_region_law (first
         |(refine iV (r:=ib) (base:=wc.heap.size) (v:= .slice (some ⟨wc.heap.size,0,none⟩) 1 1) (u:= .slice q lr (oc-a)) (S:=λ_=>False) rfl _ _ rfl iX rfl rfl ((Own.Nk wc y R'.o _ (g9 _)).c' (g' _ _).drew) (Src.plain (Plain.int _) (Src.of_slice (gZ.c' Ks.o (hd (g' _ _) (.cells #[y] 24)).drew))) (λ_ _ h=>h.elim) (λ_ _ h=>h) (by have:=J9.o.2;have:=O3.o.1;unfold maxLen;simp only [TF];omega) (by have:=J9.o.2;have:=O3.o.1;simp only [TF];omega) (hd (g' _ _) _).drew.size ?_
           intro v5 w5 J6 hk5 hl5;rw [HZ.o]at J6;obtain⟨a5,c5,rfl, -, -⟩:=iW J6;have SM:=Hd J6.slice;have O0:Hi (Own ib W.heap.size 24 (λk=>W.heap.size<=k/\k<wc.heap.size) w5 (.slice oa a oc) P):=(SQ.o.c' (hd (g' _ _) (.cells #[y] 24)).drew).keep (hk5.mono λk _ hk e=>by have e2:=jR e;have e3:wc.heap.size=k:=e2;have:=hk.2;omega);have vR:Hi (BW W w5):=Kept.behind (hd O5.o (.cells #[y] 24)).drew hk5 (iu hWc (hd (g' _ _) _).drew.size) (λj hj e=>by have e2:=jR e;have e3:wc.heap.size=j:=e2;omega);have Pd:=vR.o.size;clear J6 hk5 hl5)
         |(refine iV (r:=ib) (base:=W.heap.size) (v:= .slice oa a oc) (u:= .slice a5 Z.length c5) (S:=λ_=>False) rfl _ _ rfl iX rfl rfl O0.o (Src.plain (Plain.int _) (Src.of_slice SM.o)) (λ_ _ h=>h.elim) (λ_ _ h=>h) (by have:=J9.o.1;have:=M4.o;have:=O3.o;unfold maxLen;omega) (by have:=J9.o.1;have:=M4.o;have:=O3.o;omega) Pd ?_
           intro v6 w6 OQ RA Sp;rw [HY.o]at OQ;obtain⟨a6,c6,rfl, -, -⟩:=iW OQ;have SI:Hi (Own ib W.heap.size 24 (λk=>W.heap.size<=k) w6 (.slice a6 Y.length c6) Y):=OQ.mono λk _ hk=>hk.elim (λh=>h.1) λh=>iu Pd h;have J5:Hi (BW W w6):=Kept.behind vR.o RA Pd (λj hj e=>by have:=(O0.o.lt e).2.2;omega);clear OQ RA Sp))
        all_goals
         go_wp2;go_roundw
         case rel=>exact⟨i+1,Y,UN,by go_num,SI,rT,D4,O2.o,J5.o⟩
         case measure=>first|(simp [intOf];done)|(simp [intOf];omega)
  ·obtain rfl:i=m.L.length:=UN
   go_wp2;go_ret;exact⟨_,T,rfl,(Own.low HO.o HB.o.size).mono λj _ hj=>iu HB.o.size hj,HP.o,HM.o,Sq,d' HB.o M8.o⟩
open Go.Maps
def Im (m:k7)(x:Int):Prop:=(∃e,iA m.L x=some e)/\ ∀y e,iA m.L y=some e-> ¬(1<e.b.f'/\e.b.parent=x)
def MN (m:k7)(w:World)(e:Ending)(w':World):Prop:=
 ∃(a:UP) (cap:Nat) (L:List Int),e= .returned (.slice a L.length cap)/\Own ib w.heap.size 24 (λk=>w.heap.size<=k) w' (.slice a L.length cap) L/\L.Pairwise (· < ·)/\(∀x,x∈L↔Im m x)/\BW w w'
structure B8 (m:k7)(left:Int->Bool)(pm:kY):Prop where
 val: ∀x v,getM pm x=some v->v= .bool true/\ ∃y e,iA m.L y=some e/\1<e.b.f'/\e.b.parent=x
 all: ∀y e,iA m.L y=some e->left y=false->1<e.b.f'->getM pm e.b.parent=some (.bool true)
theorem B8.skip {m:k7}{left:Int->Bool}{pm:kY}(h:B8 m left pm){x:Int}{e:mB}(G:iA m.L x=some e)(hh: ¬1<e.b.f'):B8 m (λy=>left y&& !(y==x)) pm:=
 ⟨h.val,λy u hy z h1=>by
  by_cases j:y=x
  ·subst j
   rw [G]at hy;obtain rfl:=jR hy;exact absurd h1 hh
  ·refine h.all y u hy ?_ h1
   simpa [j]using z⟩
theorem B8.put {m:k7}{left:Int->Bool}{pm:kY}(h:B8 m left pm){x:Int}{e:mB}(U:iA m.L x=some e)(hh:1<e.b.f'):B8 m (λy=>left y&& !(y==x)) (vg pm e.b.parent (.bool true)):=
 ⟨λz v j=>by
  by_cases V:z=e.b.parent
  ·subst V
   rw [rP]at j;exact⟨(jR j).symm,x,e,U,hh,rfl⟩
  ·rw [qJ _ _ _ _ V]at j
   exact h.val z v j,
  λy K hy Y h1=>by
   by_cases u:K.b.parent=e.b.parent
   ·rw [u,rP]
   ·rw [qJ _ _ _ _ u]
    refine h.all y K hy ?_ h1;have G:y≠x:=λG=>by
     subst G;rw [U]at hy;exact u (by rw [jR hy])
    simpa [G]using Y⟩
structure xx (m:k7)(pm:kY)(left:Int->Bool)(L:List Int):Prop where
 nd:L.Nodup
 mem: ∀x,x∈L↔(∃e,iA m.L x=some e)/\left x=false/\getM pm x=none
theorem xx.start (m:k7)(pm:kY){left:Int->Bool}(h: ∀x,left x=(iA m.L x).isSome):xx m pm left []:=
 ⟨List.nodup_nil,λx=>⟨λj=>by simp at j,λj=>by
  obtain⟨⟨e,y⟩,u, -⟩:=j;rw [h,y]at u;simp at u⟩⟩
theorem xx.skip {m:k7}{pm:kY}{left:Int->Bool}{L:List Int}(h:xx m pm left L){x:Int}(j:getM pm x≠none):xx m pm (λy=>left y&& !(y==x)) L:=
 ⟨h.nd,λy=>by
  rw [h.mem y];by_cases u:y=x
  ·subst u
   exact⟨λa=>absurd a.2.2 j,λa=>absurd a.2.2 j⟩
  ·simp [u]⟩
theorem xx.put {m:k7}{pm:kY}{left:Int->Bool}{L:List Int}(h:xx m pm left L){x:Int}{e:mB}(U:iA m.L x=some e)(K:left x=true)(G:getM pm x=none):xx m pm (λy=>left y&& !(y==x)) (L++ [x]):=
 ⟨by
  rw [List.nodup_append];refine⟨h.nd,US,λa z b j=> ?_⟩;rw [TD]at j;subst j;intro e;subst e;have:=((h.mem a).1 z).2.1;rw [K]at this;simp at this,
  λy=>by
   rw [Ti,TD,h.mem y];by_cases u:y=x
   ·subst u
    exact⟨λ_=>⟨⟨e,U⟩,US,G⟩,λ_=> .inr rfl⟩
   ·simp [u]⟩
theorem GC {m:k7}{pm:kY}{left left':Int->Bool}{L j:List Int}(z:B8 m left' pm)(ab: ∀x,left' x=false)(h:xx m pm left L)(Y: ∀x,left x=false)(hperm:j.Perm L)(ae:j.Pairwise (· <= ·)):j.Pairwise (· < ·)/\ ∀x,x∈j↔Im m x:=by
 refine⟨?_,λx=> ?_⟩
 ·have ad:j.Nodup:=hperm.nodup_iff.2 h.nd
  have:=ae.and ad;exact this.imp fun⟨h1,h2⟩=>by omega
 ·rw [hperm.mem_iff,h.mem x]
  constructor
  ·rintro⟨h1, -,G⟩
   refine⟨h1,λy e hy u=> ?_⟩;have:=z.all y e hy (ab y) u.1;rw [u.2,G]at this;simp at this
  ·rintro⟨h1,h2⟩
   refine⟨h1,Y x,?_⟩
   cases V:getM pm x with
   |none=>rfl
   |some v=>
    obtain⟨-,y,e,hy,K,U⟩:=z.val x v V;exact absurd ⟨K,U⟩ (h2 y e hy)
theorem Ag: ∀ {l m:List Int},l.Pairwise (· < ·)->m.Pairwise (· < ·)->(∀x,x∈l↔x∈m)->l=m
 | [],[],_,_,_=>rfl
 | [],b::m,_,_,h=>by have:=(h b).2 US;simp at this
 |a::l,[],_,_,h=>by have:=(h a).1 US;simp at this
 |a::l,b::m,G,U,h=>by
  obtain⟨u,K⟩:=TS.1 G;obtain⟨y,V⟩:=TS.1 U;have z:a=b:=by
   have h1:=(h a).1 US;have h2:=(h b).2 US;rcases TE.1 h1 with e|h1
   ·exact e
   ·rcases TE.1 h2 with e|h2
    ·exact e.symm
    ·have:=u b h2
     have:=y a h1;omega
  subst z;rw [Ag K V λx=> ?_];constructor
  ·intro j
   rcases TE.1 ((h x).1 (Uj _ j))with e|h1
   ·subst e;have:=u x j;omega
   ·exact h1
  ·intro j
   rcases TE.1 ((h x).2 (Uj _ j))with e|h1
   ·subst e;have:=y x j;omega
   ·exact h1
theorem IV (c:Nat)(SB PI:UO)(w:World)(r:i4)(m:k7)(bs:List hV)(v:p3)(h:j5 c SB PI w r m bs v)(aU:m.L.length<=12):
 Calls prog 57 #[.pointer (some ⟨c,0,none⟩)] w (MN m w):=by
 obtain⟨V,bf,bD,cd⟩:=h.map;have bI:Hi (∀x e,iA m.L x=some e->iZ e.b.parent):=λx e ab=>(h.blocks e (kx ab).1).1.parent;have aP:=jc w (.map #[] 0);obtain⟨HC,bR,aI⟩:=kT (b' aP h.cell) (bf.c' aP) bD;have a2:Hi (V.length<=12):=Hd UN;obtain⟨a4,bi⟩:=ik (rD w) aP;have a1:Hi (v.mb<w.heap.size):=bf.lt;have bG:=Hd h.cell;have cC:= @xH prog;clear aP h bf bD cd aU;go_in;go_upto_region 2 with(fail);generalize w.alloc (.map #[] 0)=W at*;obtain⟨j,a9⟩:=iF (w.heap.size);have aG:=Hd a9;rw [a9]at a4 a1⊢;have a6:Hi (j<W.heap.size):=a4.o.lt;obtain⟨ai,aF⟩:=a' HC.o;simp only [jw]at ai
 go_wp2_with (first
  |(at_range;refine qy rfl _ rfl _ 77 rfl 81 underlying77 v.mb V rfl bR.o ?_;intro w1 ay hb1 aV)
  |go_in)
 go_frame;obtain⟨z,aZ,aq⟩:=kT ay hb1 (a4.o.c' hb1);clear ai aF ay hb1 aV;obtain⟨R,bt⟩:=iF (W.heap.size);rw [bt]at z a6⊢;have ao:Hi (Below j w w1):=by rw [<-a9];exact d' bi.o aZ.o
 have bL:=Hd (b' aZ.o HC.o);clear bt bi aZ;go_loopw [14] (λ_ wr=> ∃(pm:kY) (left:Int->Bool) (au:Nat),Hi (nR wr v.mb R V left au)/\Hi (MapAt wr j pm)/\Hi (B8 m left pm)/\pm.length+au<=V.length/\Hi (Below j w wr)) (λ_ wr=>wr.rangeLeft v.mb R)
 case atStart=>exact⟨[],_,_,z,aq,⟨λx v cg=>by simp [getM]at cg,λy e hy aU _=>by rw [aI.o,hy]at aU;simp at aU⟩,US,ao⟩
 case round=>
  clear z aq ao bL;obtain⟨pm,left,au,z,ae,aK,cy,K⟩:=hrel;obtain⟨aE,ch⟩: ∃x,x=wr:=⟨_,rfl⟩;subst ch
  go_wp2_with (first
   |(at_next;refine rK rfl _ rfl _ rfl v.mb R V left au rfl z.o ?_ ?_)
   |go_in)
  ·intro b5 bA
   have bM:=Hd bA;have bj:=Hd (b' (by rw [aG.o];exact K.o) bG.o);have bn:=Hd z.o.map;have aL:Hi (R<aE.heap.size/\j<R/\v.mb<j):=⟨z.o.lt.2.1,a6.o,a1.o⟩;clear b5 bA z;go_upto_region 8 with(fail);obtain⟨ai,aF⟩:=a' bj.o;simp only [jw]at ai
   go_wp2_with (first
    |(at_range;refine qy rfl _ rfl _ 77 rfl 81 underlying77 v.mb V rfl bn.o ?_;intro w1 ay hb1 aV)
    |go_in)
   go_frame;obtain⟨z,aq⟩:=ik ay (ae.o.c' hb1);have ao:Hi (Below j w w1):=K.o.trans (hb1.mono (by have:=aL.o;omega));obtain⟨R2,bv⟩:=iF (aE.heap.size);rw [bv]at z aL aV⊢;clear ay hb1 ai aF ae K bn bj bv;go_loopw [6] (λck wr=> ∃(L:List Int) (aX:Int->Bool) (av:Nat),Hi (nR wr v.mb R2 V aX av)/\Hi (MapAt wr j pm)/\Hi (xx m pm aX L)/\Hi (Own ib (R2+1) 24 (λk=>R2+1<=k) wr ck L)/\L.length+av<=V.length/\Hi (Below j w wr)/\Hi (R2+1<=wr.heap.size)) (λ_ wr=>wr.rangeLeft v.mb R2)
   case atStart=>exact⟨[],_,_,z,aq,xx.start m pm (λx=>by rw [aI.o,Option.isSome_map]),Own.nil _ _ _ _ _,US,ao,by show _<=_;omega⟩
   case round=>
    clear z aq ao aV;obtain⟨L,aX,av,z,ae,ar,ap,cz,K,aM⟩:=hrel;obtain⟨wq,cj⟩: ∃x,x=wr:=⟨_,rfl⟩;subst cj;obtain⟨aA,aC,rfl, -, -⟩:=iW ap.o
    go_wp2_with (first
     |(at_next;refine rK rfl _ rfl _ rfl v.mb R2 V aX av rfl z.o ?_ ?_)
     |go_in)
    ·intro b6 bB
     have bN:=Hd bB;have bT:L.length<=12:=(by have:=a2.o;omega);clear b6 bB;go_wp2_with fail;refine(EC (R2+1) _ wq aA aC L bT ap.o).mono ?_;rintro e aD⟨rfl,a7,hperm,hsort,ah,bz⟩;have bb:=hperm.length_eq;obtain⟨bC,bE⟩:=GC aK.o bM.o ar.o bN.o hperm hsort;obtain⟨ak,bS⟩:=ik bC bE;have bZ:=aL.o;have bU:Hi (Own ib w.heap.size 24 (λk=>w.heap.size<=k) aD (.slice aA a7.length aC) a7):=by
      rw [<-bb]at ah;exact(ah.MF (base':=w.heap.size) (by have:=aG.o;omega)).mono λk _ G=>by have:=aG.o;have cA:R2+1<=k:=G;omega
     have bH:Hi (BW w aD):=by
      show Below _ _ _;rw [aG.o];exact Kept.behind K.o bz (by have:=aM.o;omega) λk G h=>by
       have:=(ap.o.lt h).2.1;have h2:R2+1<=k:=this;omega
     rw [<-bb];clear hperm hsort ah bz bC bE bb;go_wp2;go_ret;exact⟨aA,aC,a7,rfl,bU.o,ak.o,bS.o,bH.o⟩
    ·intro x b4 w2 co bh be aw az hlt ad aW bx
     have bZ:=aL.o;have U:=Hd az;have Y:=Hd (ae.o.keep ad (by show j≠R2;omega));have a3:=Hd (ap.o.keep (ad.mono λk _ G=>by have h2:R2+1<=k:=G;show k≠R2;omega));have aj:Hi (Below j w w2):=Kept.behind K.o ad (by have:=aM.o;omega) λk G=>(by show k≠R2;omega);have bq:Hi (R2+1<=w2.heap.size):=Hd (by rw [aW];exact aM.o);have ag:=aw;rw [aI.o]at ag;obtain⟨e,ab,b7⟩:=vX.1 ag;obtain⟨aH,bQ⟩:=ik ab be;have hlt2:=hlt;have bm:Hi (w2.rangeLeft v.mb R2<wq.rangeLeft v.mb R2):=Hd (by rw [U.o.left,z.o.left];exact hlt);clear az ad aW aw ag ae ap K aM z b7 ab be;have al:=Y.o.look underlying164 (z6 w2) x bh
     cases af:getM pm x with
     |some u=>
      have cf:=(aK.o.val x u af).1;subst cf;rw [af]at al;have b9:(Instr.lookup 164 (.map (some j)) (U2 x) false).run prog w2= .ok (.bool true) w2:=al;have aN:=Hd (ar.o.skip (x:=x) (by rw [af];simp));clear al af ar;go_wp2;go_roundw
      case rel=>exact⟨L,_,_,U,Y,aN,a3,UN,aj,bq⟩
      case measure=>exact bm.o
     |none=>
      rw [af]at al;have b9:(Instr.lookup 164 (.map (some j)) (U2 x) false).run prog w2= .ok (.bool false) w2:=al;have aN:=Hd (ar.o.put aH.o bQ.o af);clear al af ar;have cu:L.length<=12:=(by have:=a2.o;omega);obtain⟨a8,aO⟩:=iF (L++ [x]);have bO:=Hd aO;have cB:a8.length=L.length+1:=(by rw [<-aO];simp);rw [aO]at aN;clear aO;have cE:=bq.o;go_wp2_with (at_builtin;refine iC (r:=ib) (base:=R2+1) (v:= .slice aA L.length aC) (u:= .slice (some ⟨w2.heap.size,0,none⟩) 1 1) (S:=λ_=>False) rfl _ _ rfl iX rfl rfl (a3.o.c' (hd (g' _ _) (.cells #[x] 24))) (Src.one (r:=ib) (y:=x) ⟨rfl,bh⟩ (jx.new w2 [x] 24)) (λ_ _ h=>h.elim) (λ_ _ h=>h) (by unfold maxLen;simp;omega) (by simp;omega) (by rw [U4];omega) ?_)
      intro cl aY bg ax b8;rw [bO.o]at bg;have aT:=jc w2 (.cells #[x] 24);have aJ:Hi (∀k,k<R2+1->(Value.slice aA L.length aC).ownBlock≠some k):=λk G e=>by
       have:=(a3.o.lt e).2.1;have h2:R2+1<=k:=this;omega
      have bp:=Hd ((U.o.c' aT).keep ax (aJ.o _ UN) (aJ.o _ UN));have bY:=Hd ((Y.o.c' aT).keep ax (aJ.o _ UN));have bW:Hi (Own ib (R2+1) 24 (λk=>R2+1<=k) aY cl a8):=bg.mono λk _ G=>by
       rcases G with h1|h1
       ·exact h1
       ·have cp:w2.heap.size+1<=k:=by first|exact h1|(rw [U4]at h1;exact h1)
        show R2+1<=k;omega
      have bK:Hi (Below j w aY):=Kept.behind (aj.o.trans (aT.mono UN)) ax (by rw [U4];omega) λk G=>aJ.o k UN;have b0:Hi (R2+1<=aY.heap.size):=Hd (by have:=ax.size;rw [U4]at this;omega);have bP:Hi (aY.rangeLeft v.mb R2<wq.rangeLeft v.mb R2):=Hd (by rw [bp.o.left];have:=bm.o;rw [U.o.left]at this;exact this);clear aT bg ax b8;go_wp2;go_roundw
      case rel=>exact⟨a8,_,_,bp,bY,aN,bW,UN,bK,b0⟩
      case measure=>exact bP.o
  ·intro x b4 w2 av bh be aw az hlt ad aW bx
   have cv:=a6.o;have cq:=a1.o;have ag:=aw;rw [aI.o]at ag;obtain⟨e,ab,rfl⟩:=vX.1 ag;have aH:=Hd ab;have cw:=z.o.lt.2.1;have aQ:=jc w2 (.cells #[e.b.parent,UZ e.b.f',e.b.hJ,e.b.work,e.b.e',.slice e.xa e.b.hQ.length e.xc,e.jy] 81);obtain⟨br,U⟩:=ik (gY w2 (.cells #[e.b.parent,UZ e.b.f',e.b.hJ,e.b.work,e.b.e',.slice e.xa e.b.hQ.length e.xc,e.jy] 81)) (az.c' aQ);have Y:=Hd ((ae.o.keep ad (by show j≠R;omega)).c' aQ);have aj:Hi (Below j w (w2.alloc (.cells #[e.b.parent,UZ e.b.f',e.b.hJ,e.b.work,e.b.e',.slice e.xa e.b.hQ.length e.xc,e.jy] 81))):=(Kept.behind K.o ad UN λk G=>by show k≠R;omega).trans (aQ.mono UN);have ak:=Hd hlt;have bV:=bI.o x e ab;have bk:Hi (aE.rangeLeft v.mb R=au):=z.o.left;have b1:Hi (j<w2.heap.size):=Hd UN;clear aw ag az ad aQ ab ae K z aW;go_upto_region 5 with(fail);clear bx;obtain⟨X,bw⟩:=iF (w2.heap.size);rw [bw]at br b1⊢;clear bw;generalize w2.alloc (.cells #[e.b.parent,UZ e.b.f',e.b.hJ,e.b.work,e.b.e',.slice e.xa e.b.hQ.length e.xc,e.jy] 81)=cn at*;obtain⟨ai,aF⟩:=a' br.o;by_cases hh:1<e.b.f'
   ·have a5:=Hd (aK.o.put aH.o hh)
    have cD:=CM pm e.b.parent (.bool true)
    go_wp2_with (first
     |(at_mapUpdate;refine sI rfl _ rfl _ _ _ 164 rfl 4 underlying164 j pm rfl Y.o (by have:=a2.o;unfold maxLen;omega) e.b.parent (.bool true) rfl bV rfl ?_;intro aD bF ah ce)
     |go_in)
    have bX:=Hd bF;have bo:=Hd (U.o.keep ah (by show v.mb≠j;omega) (by show R≠j;omega));have bJ:Hi (Below j w aD):=Kept.behind aj.o ah (by have:=Y.o.lt;omega) λk G=>(by show k≠j;omega);have a0:Hi (aD.rangeLeft v.mb R<aE.rangeLeft v.mb R):=Hd (by rw [bo.o.left,bk.o];exact ak.o);have hlt2:=ak.o;clear bF ah ce U Y aj ai aF;go_frame;go_wp2;go_roundw
    case rel=>exact⟨_,_,_,bo,bX,a5,UN,bJ⟩
    case measure=>exact a0.o
   ·have a5:=Hd (aK.o.skip aH.o hh)
    have a0:Hi (cn.rangeLeft v.mb R<aE.rangeLeft v.mb R):=Hd (by rw [U.o.left,bk.o];exact ak.o);have hlt2:=ak.o;go_wp2;go_roundw
    case rel=>exact⟨pm,_,_,U,Y,a5,UN,aj⟩
    case measure=>exact a0.o
structure lD (m:k7)(rc:nL):Prop where
 len:rc.L.length=m.L.length
 elem: ∀(k:Nat) (h:k<rc.L.length) (h2:k<m.L.length),rc.L[k].b=m.L[k].b/\rc.L[k].id=m.L[k].id/\rc.L[k].jy=m.L[k].jy
 ids: ∀(i j:Nat) (hi:i<rc.L.length) (hj:j<rc.L.length),rc.L[i].id=rc.L[j].id->i=j
 par: ∀(k:Nat) (h:k<rc.L.length),(rc.L[k].b.f'=1/\rc.L[k].par= -1)\/(rc.L[k].b.f'≠1/\ ∃(j:Nat) (hj:j<rc.L.length),j<k/\rc.L[k].par=j/\rc.L[j].id=rc.L[k].b.parent/\rc.L[j].b.f'=rc.L[k].b.f'-1)
 lh:(rc.lh= -1/\m.best= [])\/ ∃(j:Nat) (hj:j<rc.L.length),rc.lh=j/\m.best≠ []/\rc.L[j].id=m.best.getD (m.best.length-1) 0
 fin:(rc.fin= -1/\m.hgt=0/\m.final=0)\/ ∃(j:Nat) (hj:j<rc.L.length),rc.fin=j/\0<m.hgt/\rc.L[j].id=m.final/\rc.L[j].b.f'=m.hgt
section
variable {r:i4} {m:k7} {rc:nL}
theorem lD.zU (s:lD m rc):xJ rc.L:=λk u=>by
 rcases s.par k u with⟨-,h⟩|⟨-,j,y,z,h, -⟩
 ·omega
 ·omega
theorem lD.at (s:lD m rc)(ok:lE r m)(k:Nat)(h:k<rc.L.length): ∃e,iA m.L rc.L[k].id=some e/\e.b=rc.L[k].b/\e.id=rc.L[k].id/\e.jy=rc.L[k].jy:=by
 have h2:k<m.L.length:=by have:=s.len;omega
 obtain⟨u,j,y⟩:=s.elem k h h2;refine⟨m.L[k],?_,u.symm,j.symm,y.symm⟩;rw [j];exact ok.D9 _ (z3 h2)
theorem lD.get (s:lD m rc){x:Int}{e:mB}(h:iA m.L x=some e): ∃(k:Nat) (j:k<rc.L.length),rc.L[k].id=x/\rc.L[k].b=e.b/\rc.L[k].jy=e.jy:=by
 obtain⟨G,rfl⟩:=kx h;obtain⟨k,j,rfl⟩:=TH G;have h2:k<rc.L.length:=by have:=s.len;omega
 obtain⟨u,y,z⟩:=s.elem k h2 j;exact⟨k,h2,y,u,z⟩
theorem lD.find (s:lD m rc)(ok:lE r m)(x:Int):(iA m.L x=none/\qe rc.L x= -1)\/ ∃(e:mB) (k:Nat) (u:k<rc.L.length),iA m.L x=some e/\qe rc.L x=k/\rc.L[k].id=x/\rc.L[k].b=e.b/\rc.L[k].jy=e.jy:=by
 cases G:iA m.L x with
 |none=>
  refine .inl ⟨rfl,yO λj z _ y=> ?_⟩;obtain⟨e,h1, -⟩:=s.at ok j z;rw [y,G]at h1;simp at h1
 |some e=>
  obtain⟨k,u,h1,h2,K⟩:=s.get G;exact .inr ⟨e,k,u,rfl,C3 u (λj z U y=>by have:=s.ids j k z u (by rw [y,h1]);omega) h1,h1,h2,K⟩
theorem ro (s:lD m rc)(ok:lE r m): ∀(n k:Nat) (u:k<rc.L.length),k<n->(js rc.L n k).map (r7 rc.L)=l9 m.L rc.L[k].b.f'.toNat rc.L[k].id/\(js rc.L n k).length=rc.L[k].b.f'.toNat
 |0,k,u,h=>absurd h (pf _)
 |n+1,k,u,ai=>by
  obtain⟨e,y,z, -⟩:=s.at ok k u;have G:r7 rc.L (k:Int)=rc.L[k].id:=by unfold r7;rw [jJ,lA _ _ u]
  have hw:js rc.L (n+1) k=js rc.L n rc.L[k].par++ [(k:Int)]:=by rw [js,g3 UN,jJ,lA _ _ u]
  have hh:=(ok.high e (kx y).1).1;rw [z]at hh;obtain⟨q,ab⟩: ∃q:Nat,rc.L[k].b.f'.toNat=q+1:=⟨rc.L[k].b.f'.toNat-1,UN⟩;have V:l9 m.L (q+1) rc.L[k].id=l9 m.L q rc.L[k].b.parent++ [rc.L[k].id]:=by
   show(match iA m.L rc.L[k].id with|some e=>l9 m.L q e.b.parent++ [rc.L[k].id]|none=> [])=_
   rw [y,<-z]
  rw [hw,ab,V,T0,U3];rcases s.par k u with⟨h1,h2⟩|⟨h1,j,Y,ah,h2,U,ag⟩
  ·have ad:q=0:=UN
   subst ad;have:js rc.L n (-1)= []:=(by cases n<;>simp [js]);rw [h2,this];exact⟨by simp [G,l9],rfl⟩
  ·obtain⟨ae,af⟩:=ro s ok n j Y UN
   have K:rc.L[j].b.f'.toNat=q:=UN;rw [h2,ae,K,U,af,K];exact⟨by simp [G],rfl⟩
theorem Iq: ∀(n:Nat) (l:List Int),l.length=n+1-> ∀ {L:List mB},lW L l->l9 L (n+1) (l.getD n 0)=l
 |n,l,u,L,h=>by
  obtain⟨j,p,rfl⟩: ∃j p,l=j++ [p]:=⟨l.dropLast,l.getLast (by intro e;rw [e]at u;simp at u),(Up _).symm⟩;have y:j.length=n:=by simpa using u
  obtain⟨e,h1,h2,U⟩:=h n UN;have z:(j++ [p])[n]' UN=p:=by rw [TW UN];simp
  rw [z]at h1;have K:(j++ [p]).getD n 0=p:=by rw [U5,z2 UN,z];rfl
  rw [K];show(match iA L p with|some e=>l9 L n e.b.parent++ [p]|none=> [])=_
  rw [h1];show l9 L n e.b.parent++ [p]=_
  cases n with
  |zero=>
   obtain rfl:=T5 y;rfl
  |succ q=>
   have G:=U UN;rw [qT,U5,TN UN,<-U5]at G;have hw:lW L j:=by
    have:=h.take (q+1);rwa [UH y]at this
   rw [G,Iq q j y hw]
theorem lD.best (s:lD m rc)(ok:lE r m):zZ rc.L rc.lh=m.best:=by
 unfold zZ;rcases s.lh with⟨h1,h2⟩|⟨j,y,h1,h2,u⟩
 ·rw [h1,h2]
  cases rc.L.length<;>simp [js]
 ·obtain⟨n,z⟩: ∃n,m.best.length=n+1:=⟨m.best.length-1,by have:=List.length_pos_iff.2 h2;omega⟩
  rw [z,qT]at u;obtain⟨e,U,V, -⟩:=ok.best n UN;obtain⟨Y,f1,K, -⟩:=s.at ok j y;have G:m.best.getD n 0=m.best[n]:=(by rw [U5,z2 UN];rfl);rw [u,G,U]at f1;obtain rfl:=jR f1;have hh:rc.L[j].b.f'.toNat=n+1:=(by rw [<-K,V];omega);rw [h1,(ro s ok _ j y y).1,hh,u,Iq n m.best z ok.best]
theorem uX (l:List Int):l.getLast?.getD 0=l.getD (l.length-1) 0:=by
 rw [Uz,U5]
theorem lD.PJ (s:lD m rc)(ok:lE r m):vZ rc.L rc.lh=r4 m/\mW rc.L rc.lh=m.best.length:=by
 unfold vZ mW r4;rcases s.lh with⟨h1,h2⟩|⟨j,y,h1,h2,u⟩
 ·rw [h1,h2];exact⟨rfl,rfl⟩
 ·obtain⟨n,z⟩: ∃n,m.best.length=n+1:=⟨m.best.length-1,by have:=List.length_pos_iff.2 h2;omega⟩
  rw [h1,g3 UN,g3 UN,jJ,lA _ _ y,uX,u];refine⟨rfl,?_⟩;rw [z,qT]at u;obtain⟨e,U,V, -⟩:=ok.best n UN;obtain⟨Y,f1,K, -⟩:=s.at ok j y;have G:m.best.getD n 0=m.best[n]:=(by rw [U5,z2 UN];rfl);rw [u,G,U]at f1;obtain rfl:=jR f1;rw [<-K,V,z];rfl
theorem lD.Qn (s:lD m rc):vZ rc.L rc.fin=m.final/\mW rc.L rc.fin=m.hgt:=by
 unfold vZ mW;rcases s.fin with⟨h1,h2,u⟩|⟨j,z,h1,h2,u,y⟩
 ·rw [h1,h2,u];exact⟨rfl,rfl⟩
 ·rw [h1,g3 UN,g3 UN,jJ,lA _ _ z,u,y]
  exact⟨rfl,rfl⟩
theorem lD.bounds (s:lD m rc): -1<=rc.lh/\rc.lh<rc.L.length/\ -1<=rc.fin/\rc.fin<rc.L.length:=by
 rcases s.lh with⟨h1, -⟩|⟨j,u,h1, -⟩<;>rcases s.fin with⟨h2, -⟩|⟨i,hi,h2, -⟩<;>omega
theorem lD.PH (s:lD m rc)(ok:lE r m)(x:Int):B7 rc.L rc.L.length x↔Im m x:=by
 constructor
 ·rintro⟨i,hi, -,rfl,V⟩
  obtain⟨e,U, -⟩:=s.at ok i hi;refine⟨⟨e,U⟩,λy f K af=> ?_⟩;obtain⟨k,u,h1,h2, -⟩:=s.get K;rcases s.par k u with⟨z, -⟩|⟨z,j,ad,ah,Y,G, -⟩
  ·rw [h2]at z;omega
  ·rw [h2,af.2]at G
   have:=s.ids j i ad hi G;subst this;exact V k u Y
 ·rintro⟨⟨e,U⟩,V⟩
  obtain⟨i,hi,h1,h2, -⟩:=s.get U;refine⟨i,hi,hi,h1,λk u ai=> ?_⟩;rcases s.par k u with⟨-,z⟩|⟨z,j,ad,ah,Y,G, -⟩
  ·omega
  ·obtain⟨f,K,ab, -⟩:=s.at ok k u
   have ag:j=i:=UN;subst ag;have ae:=(ok.high f (kx K).1).1;refine V _ f K ⟨?_,?_⟩
   ·rw [ab]at ae⊢;omega
   ·rw [ab,<-G,h1]
end
end Go.Proofs.YtjdiofjjoefnhaaGreatDoor
