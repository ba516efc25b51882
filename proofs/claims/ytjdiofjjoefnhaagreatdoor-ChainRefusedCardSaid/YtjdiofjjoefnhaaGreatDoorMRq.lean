/- The reference's relation: one spent note, what is right of it, sums. -/
import Derived.Test.YtjdiofjjoefnhaaGreatDoorMRef
set_option maxRecDepth 100000
set_option maxHeartbeats 8000000
namespace Go.Proofs.YtjdiofjjoefnhaaGreatDoor
open Tryz Go.ChangeShapes Go.WideShapes Go.ChangeAt Go.RowKit Go.Sort
theorem He {D:Nat}{i:iR}(h:mP D i=true):pN i.key i.note.jr=true:=by
 unfold mP lf ja at h;simp only [kg,jk]at h;obtain⟨⟨h1,h2, -⟩, -⟩:=h;have j:i.key<18446744069414584321:=by simpa [h',jv,jC]using h2
 exact iP ⟨j,h1.2.2.1⟩
theorem EG (S:UO) (w:World) (g5 j:Int) (i:iR) (ax:qk i) (pa:UP) (pc:Nat) (ay:gZ.rel S w [.slice pa i.path.length pc] i.path)
 (h1:i.path.length<=12) (h2:0<=i.hO) (aH:i.hO<=4095) (av:pN i.key i.note.jr=true):
 Calls prog 195 #[.agg ri,g5,j,.agg (tx i pa pc)] w (Rt w (UZ (iM g5 i j))):=by
 have ao:=(hd (jc w (.cells ri 36)) (.cells (tx i pa pc) 265));have ar:=Hd (ji w (.cells ri 36) (.cells (tx i pa pc) 265)).2;have ag:=Hd (ji w (.cells ri 36) (.cells (tx i pa pc) 265)).1;obtain⟨V,aA,ad⟩:=kT ao (gZ.c' ay ao) ax;have ah:Hi (iM g5 i j=if i.note.owner=kN i.key i.number then (if pN i.key i.note.jr=true/\k8 i.key i.note.jr=j then (if i.nE=true then (if i.note.value=0 then 0 else 13)else (if ja i.note=true/\jo (ip i.note) i.hO i.path=g5 then 0 else 11))else 12)else 21):=rfl;have az:=Hd av;clear ao ay ax av;go_in;go_wp2_with fail;generalize (w.alloc (.cells ri 36)).alloc (.cells (tx i pa pc) 265)=W at*;have aO:=g0 ag.o;refine m6 ?_
 repeat (first|go_big_quiet_step (exact ie (yv _ i.key i.number ad.o.key))|quiet_step (exact ie (yv _ i.key i.number ad.o.key)))
 refine lz ?_;intro w1 ak;clear aO;obtain⟨y,al⟩:=a' (b' ak ag.o);obtain⟨ap,aq⟩:=a' (b' ak ar.o);by_cases K:i.note.owner=kN i.key i.number
 ·have aI:(i.note.owner==kN i.key i.number)=true:=by rw [iO];exact K
  have aJ:(i.note.owner != kN i.key i.number)=false:=(by rw [jt];exact K);have ai:Hi (iM g5 i j=if k8 i.key i.note.jr=j then (if i.nE=true then (if i.note.value=0 then 0 else 13)else (if ja i.note=true/\jo (ip i.note) i.hO i.path=g5 then 0 else 11))else 12):=by
   show _=_;rw [ah.o,g7 K,az.o];simp
  clear K ah;generalize kN i.key i.number=aM at*;go_wp2_with fail;refine UR (DA w1 i.key i.note.jr ad.o.key ad.o.note.jr) λw2 hb2=> ?_;have Y:=d' ak hb2;clear y al ap aq hb2;obtain⟨y,al⟩:=a' (b' Y ag.o);obtain⟨ap,aq⟩:=a' (b' Y ar.o);by_cases G:k8 i.key i.note.jr=j
  ·have c1:(k8 i.key i.note.jr==j)=true:=by rw [iO];exact G
   have aC:(k8 i.key i.note.jr != j)=false:=(by rw [jt];exact G);have ae:Hi (iM g5 i j=if i.nE=true then (if i.note.value=0 then 0 else 13)else (if ja i.note=true/\jo (ip i.note) i.hO i.path=g5 then 0 else 11)):=Hd (by rw [ai.o,g7 G]);clear ai G;generalize k8 i.key i.note.jr=aL at*
   cases ab:i.nE with
   |true=>
    unfold tx at y;rw [ab]at y;by_cases U:i.note.value=0
    ·have c2:(i.note.value==0)=true:=by rw [iO];exact U
     have aD:(i.note.value != 0)=false:=(by rw [jt];exact U);have u:Hi (iM g5 i j=0):=Hd (by rw [ae.o,g7 ab,g7 U]);clear U;go_wp2;go_ret;exact⟨g2 u.o.symm,d' V.o Y⟩
    ·have c2:(i.note.value==0)=false:=by rw [je];exact U
     have aD:(i.note.value != 0)=true:=(by rw [iB];exact U);have u:Hi (iM g5 i j=13):=Hd (by rw [ae.o,g7 ab,g3 U]);clear U;go_wp2;go_ret;exact⟨g2 u.o.symm,d' V.o Y⟩
   |false=>
    unfold tx at y;rw [ab]at y;have af:Hi (iM g5 i j=if ja i.note=true/\jo (ip i.note) i.hO i.path=g5 then 0 else 11):=Hd (by rw [ae.o,g3 (by rw [ab];simp)]);go_wp2_with fail;refine UR (rZ w2 i.note ad.o.note) λaN hb3=> ?_;have aj:=d' Y hb3;clear y al ap aq hb3;obtain⟨y,al⟩:=a' (b' aj ag.o);unfold tx at y;rw [ab]at y
    cases aw:ja i.note with
    |false=>
     have u:Hi (iM g5 i j=11):=Hd (by rw [af.o,g3 (λh=>by rw [aw]at h;cases h.1)]);go_wp2;go_ret;exact⟨g2 u.o.symm,d' V.o aj⟩
    |true=>
     go_wp2_with fail;refine UR (EQ S aN (ip i.note) i.hO (yU _) pa pc i.path (gZ.c' aA.o aj) h1 h2 aH) λaP aK=> ?_;have au:=d' V.o (d' aj aK);by_cases z:jo (ip i.note) i.hO i.path=g5
     ·have aE:(jo (ip i.note) i.hO i.path==g5)=true:=by rw [iO];exact z
      have aF:(jo (ip i.note) i.hO i.path != g5)=false:=(by rw [jt];exact z);have u:Hi (iM g5 i j=0):=Hd (by rw [af.o,g7 ⟨aw,z⟩]);clear z af ae;generalize jo (ip i.note) i.hO i.path=aG at*;go_wp2;go_ret;exact⟨g2 u.o.symm,au⟩
     ·have aE:(jo (ip i.note) i.hO i.path==g5)=false:=by rw [je];exact z
      have aF:(jo (ip i.note) i.hO i.path != g5)=true:=(by rw [iB];exact z);have u:Hi (iM g5 i j=11):=Hd (by rw [af.o,g3 (λh=>z h.2)]);clear z af ae;generalize jo (ip i.note) i.hO i.path=aG at*;go_wp2;go_ret;exact⟨g2 u.o.symm,au⟩
  ·have c1:(k8 i.key i.note.jr==j)=false:=by rw [je];exact G
   have aC:(k8 i.key i.note.jr != j)=true:=(by rw [iB];exact G);have u:Hi (iM g5 i j=12):=Hd (by rw [ai.o,g3 G]);clear ai G;generalize k8 i.key i.note.jr=aL at*;go_wp2;go_ret;exact⟨g2 u.o.symm,d' V.o Y⟩
 ·have aI:(i.note.owner==kN i.key i.number)=false:=by rw [je];exact K
  have aJ:(i.note.owner != kN i.key i.number)=true:=(by rw [iB];exact K);have u:Hi (iM g5 i j=21):=Hd (by rw [ah.o,g3 K]);clear K ah;generalize kN i.key i.number=aM at*;go_wp2;go_ret;exact⟨g2 u.o.symm,d' V.o ak⟩
theorem Ga (D:Nat)(i:iR)(u:(2:Int)^D<=4096)(y:D<=12):mP D i=(ja i.note&&(jC i.key&&(decide (0<=i.number)&&(decide (i.number<4)&&(decide (i.path.length=D)&&(h' i.path&&(decide (0<=i.hO)&&decide (i.hO<2^D)))))))):=by
 have j:h' [i.key]=jC i.key:=by simp [h',jv]
 unfold mP lf;rw [j,oK];simp only [kg,jk];constructor
 ·rintro⟨⟨a,b,c,d⟩,e,f⟩
  exact⟨a,b,c.1,c.2.1,e,d,c.2.2.1,f⟩
 ·rintro⟨a,b,c,d,e,f,g,h⟩
  exact⟨⟨a,b,⟨c,d,g,UN,UN⟩,f⟩,e,h⟩
theorem yz (S:UO)(w:World)(i:iR)(aw:qk i)(pa:UP)(pc:Nat)(ax:gZ.rel S w [.slice pa i.path.length pc] i.path)(D:Nat)(aE:D<=12):
 Calls prog 273 #[.agg (tx i pa pc),UZ D] w (Rt w (.bool (mP D i))):=by
 have ak:=(jc w (.cells (tx i pa pc) 265));have V:=Hd (gY w (.cells (tx i pa pc) 265));obtain⟨Y,az,ay⟩:=kT ak (gZ.c' ax ak) aw;obtain⟨aC,aD,av⟩:=pL ⟨D,UN⟩;simp only at aC aD av;have ab:=Hd (Ga D i av aE);generalize aF:(2:Int)^D=ap at*;clear ak ax aw;have U: ∀(d:Nat) (os:Array Obj),Calls prog 275 #[.slice pa i.path.length pc] (grow (redrawn (w.alloc (.cells (tx i pa pc) 265)) d) os) λe w'=>e= .returned (.bool (h' i.path))/\Below (grow (redrawn (w.alloc (.cells (tx i pa pc) 265)) d) os).heap.size (grow (redrawn (w.alloc (.cells (tx i pa pc) 265)) d) os) w':=λd os=>
  oH S _ pa pc i.path (gZ.c' az.o (lm _ d os))
 have af: ∀w0:World,Calls prog 279 #[.agg #[i.note.value,i.note.owner,i.note.jr,i.note.blind]] w0 (Rt w0 (.bool (ja i.note))):=λw0=>n7 w0 i.note ay.o.note;have ae: ∀w0:World,Calls prog 272 #[i.key] w0 (Rt w0 (.bool (jC i.key))):=λw0=>nZ w0 i.key;go_in;go_wp2_with fail;generalize w.alloc (.cells (tx i pa pc) 265)=W at*
 cases ad:ja i.note with
 |false=>
  have u:=af;have y:=ae;have j:=U;rw [ad]at u;clear af ae U;have z:Hi (mP D i=false):=Hd (by rw [ab.o];rw [ad];rfl);have K:=g0 V.o;refine m6 ?_
  repeat (first|go_big_quiet_step (first|exact ie (u _)|exact ie (y _)|exact ie (j _ _))|quiet_step (first|exact ie (u _)|exact ie (y _)|exact ie (j _ _)))
  refine lz ?_;intro w1 G;clear K;go_wp2;go_ret;exact⟨g8 z.o.symm,d' Y.o G⟩
 |true=>
  cases ah:jC i.key with
  |false=>
   have u:=af;have y:=ae;have j:=U;rw [ad]at u;rw [ah]at y;clear af ae U;have z:Hi (mP D i=false):=Hd (by rw [ab.o];rw [ad,ah];rfl);have K:=g0 V.o;refine m6 ?_
   repeat (first|go_big_quiet_step (first|exact ie (u _)|exact ie (y _)|exact ie (j _ _))|quiet_step (first|exact ie (u _)|exact ie (y _)|exact ie (j _ _)))
   refine lz ?_;intro w1 G;clear K;go_wp2;go_ret;exact⟨g8 z.o.symm,d' Y.o G⟩
  |true=>
   have u:=af;have y:=ae;rw [ad]at u;rw [ah]at y;clear af ae;obtain⟨ao,al⟩:=ik ad ah;clear ad ah;by_cases d1:0<=i.number
   ·by_cases aq:i.number<4
    ·by_cases ai:i.path.length=D
     ·have aA:((i.path.length:Int)==(D:Int))=true:=by rw [iO];omega
      have aj:=Hd ai;clear ai
      cases ag:h' i.path with
      |false=>
       have j:=U;rw [ag]at j;clear U;have z:Hi (mP D i=false):=Hd (by rw [ab.o];rw [ao.o,al.o,ag,kH];simp);have K:=g0 V.o;refine m6 ?_
       repeat (first|go_big_quiet_step (first|exact ie (u _)|exact ie (y _)|exact ie (j _ _))|quiet_step (first|exact ie (u _)|exact ie (y _)|exact ie (j _ _)))
       refine lz ?_;intro w1 G;clear K;go_wp2;go_ret;exact⟨g8 z.o.symm,d' Y.o G⟩
      |true=>
       have j:=U;rw [ag]at j;clear U;by_cases ar:0<=i.hO
       ·have z:Hi (mP D i=decide (i.hO<ap)):=by show _=_;rw [ab.o,ao.o,al.o,ag,iP d1,iP aq,iP aj.o,iP ar];simp
        clear ag;by_cases au:i.hO<ap
        ·rw [iP au]at z
         have K:=g0 V.o;refine m6 ?_
         repeat (first|go_big_quiet_step (first|exact ie (u _)|exact ie (y _)|exact ie (j _ _))|quiet_step (first|exact ie (u _)|exact ie (y _)|exact ie (j _ _)))
         refine lz ?_;intro w1 G;clear K;go_wp2;go_ret;exact⟨g8 z.o.symm,d' Y.o G⟩
        ·rw [iH au]at z
         have K:=g0 V.o;refine m6 ?_
         repeat (first|go_big_quiet_step (first|exact ie (u _)|exact ie (y _)|exact ie (j _ _))|quiet_step (first|exact ie (u _)|exact ie (y _)|exact ie (j _ _)))
         refine lz ?_;intro w1 G;clear K;go_wp2;go_ret;exact⟨g8 z.o.symm,d' Y.o G⟩
       ·clear ag
        have z:Hi (mP D i=false):=Hd (by rw [ab.o];rw [iH ar,kH];simp);have K:=g0 V.o;refine m6 ?_
        repeat (first|go_big_quiet_step (first|exact ie (u _)|exact ie (y _)|exact ie (j _ _))|quiet_step (first|exact ie (u _)|exact ie (y _)|exact ie (j _ _)))
        refine lz ?_;intro w1 G;clear K;go_wp2;go_ret;exact⟨g8 z.o.symm,d' Y.o G⟩
     ·have aA:((i.path.length:Int)==(D:Int))=false:=by rw [je];omega
      have aj:=Hd ai;clear ai;have j:=U;clear U;have z:Hi (mP D i=false):=Hd (by rw [ab.o];rw [iH aj.o,kH];simp);have K:=g0 V.o;refine m6 ?_
      repeat (first|go_big_quiet_step (first|exact ie (u _)|exact ie (y _)|exact ie (j _ _))|quiet_step (first|exact ie (u _)|exact ie (y _)|exact ie (j _ _)))
      refine lz ?_;intro w1 G;clear K;go_wp2;go_ret;exact⟨g8 z.o.symm,d' Y.o G⟩
    ·have j:=U
     clear U;have z:Hi (mP D i=false):=Hd (by rw [ab.o];rw [iH aq,kH];simp);have K:=g0 V.o;refine m6 ?_
     repeat (first|go_big_quiet_step (first|exact ie (u _)|exact ie (y _)|exact ie (j _ _))|quiet_step (first|exact ie (u _)|exact ie (y _)|exact ie (j _ _)))
     refine lz ?_;intro w1 G;clear K;go_wp2;go_ret;exact⟨g8 z.o.symm,d' Y.o G⟩
   ·have j:=U
    clear U;have z:Hi (mP D i=false):=Hd (by rw [ab.o];rw [iH d1,kH];simp);have K:=g0 V.o;refine m6 ?_
    repeat (first|go_big_quiet_step (first|exact ie (u _)|exact ie (y _)|exact ie (j _ _))|quiet_step (first|exact ie (u _)|exact ie (y _)|exact ie (j _ _)))
    refine lz ?_;intro w1 G;clear K;go_wp2;go_ret;exact⟨g8 z.o.symm,d' Y.o G⟩
theorem yx (S:UO)(w:World)(a:UP)(cap:Nat)(l:List jZ)(h:i6.rel S w [.slice a l.length cap] l):
 Calls prog 274 #[.slice a l.length cap] w (Rt w (.bool (l.all ja))):=by
 have U:=(g4.lens h).2;unfold maxLen at U;have H:=Hd h;clear h;go_wp2;go_loopw [3] (λi wr=> ∃k:Nat,k<=l.length/\i= UZ k/\Hi ((l.take k).all ja=true)/\BW w wr) (λi _=>l.length-(intOf i).toNat)
 case atStart=>exact⟨0,iy _,rfl,rfl,g' _ _⟩
 case round=>
  obtain⟨k,af,rfl,y,u⟩:=hrel;by_cases hlt:k<l.length
  ·obtain⟨b,off,rfl,ae,Y,c0,c1,c2,ad⟩:=qX (i6.c' H.o u) k hlt
   obtain⟨V,ab⟩:=ik (all_false ja l k hlt) (jW ja l k hlt);have ag:(0:Int)<=(k:Int):=UN;have ah:(k:Int)<(l.length:Int):=UN;generalize l[k]=n at*;go_wp2_with fail;refine UR (n7 _ n Y) λw1 hb1=> ?_;have z:=d' u hb1
   cases G:ja n with
   |true=>
    have K:Hi ((l.take (k+1)).all ja=true):=Hd (by rw [ab.o,y.o,G];rfl);go_wp2;go_roundw
    case rel=>exact⟨k+1,UN,by go_num,K,z⟩
    case measure=>exact UY
   |false=>
    have j:=Hd (V.o G);go_wp2;go_ret;exact⟨g8 j.o.symm,z⟩
  ·obtain rfl:k=l.length:=UN
   have j:Hi (l.all ja=true):=(by have:=y.o;rw [Sw]at this;exact this);go_wp2;go_ret;exact⟨g8 j.o.symm,u⟩
theorem qn (S:UO)(w:World)(t:po)(ia oa:UP)(ic oc:Nat)(h:p9 S w t ia oa ic oc):
 Calls prog 198 #[.agg #[.slice ia t.ins.length ic,.slice oa t.outs.length oc,t.hU]] w (Rt w (U2 (jL t.ins t.ins.length))):=by
 have K:=(g4.lens h.ins).2;unfold maxLen at K;have j:=(jc w (.cells #[.slice ia t.ins.length ic,.slice oa t.outs.length oc,t.hU] 197));obtain⟨y,z,H⟩:=kT (gY w (.cells #[.slice ia t.ins.length ic,.slice oa t.outs.length oc,t.hU] 197)) j (h.c' j);clear h j;go_in;go_wp2_with fail;generalize w.alloc (.cells #[.slice ia t.ins.length ic,.slice oa t.outs.length oc,t.hU] 197)=W at*;obtain⟨ao,ap⟩:=a' y.o;go_loop [3,4] (λU u=> ∃k:Nat,k<=t.ins.length/\u= UZ k/\U= U2 (jL t.ins k)) (λ_ u=>t.ins.length-(intOf u).toNat)
 case atStart=>exact⟨0,iy _,rfl,rfl⟩
 case round=>
  obtain⟨k,ah,rfl,rfl⟩:=hrel;by_cases hlt:k<t.ins.length
  ·obtain⟨b,off,pa,pc,rfl,ag,ai,aj,c0,c1,c2,V,Y,ab,ad,ae,af⟩:=ow H.o.ins k hlt
   have G:=Hd (wG t.ins k hlt);have ak:(0:Int)<=(k:Int):=UN;have al:(k:Int)<(t.ins.length:Int):=UN;generalize t.ins[k]=i at*;generalize jL t.ins k=m at*;go_wp2_with fail;go_round
   case rel=>exact⟨k+1,UN,by go_num,by rw [G.o]⟩
   case measure=>exact UY
  ·obtain rfl:k=t.ins.length:=UN
   go_wp2;go_ret;exact⟨rfl,z.o⟩
theorem pu (S:UO)(w:World)(t:po)(ia oa:UP)(ic oc:Nat)(h:p9 S w t ia oa ic oc):
 Calls prog 199 #[.agg #[.slice ia t.ins.length ic,.slice oa t.outs.length oc,t.hU]] w (Rt w (U2 (jd t.outs t.outs.length))):=by
 have K:=(g4.lens h.outs).2;unfold maxLen at K;have j:=(jc w (.cells #[.slice ia t.ins.length ic,.slice oa t.outs.length oc,t.hU] 197));obtain⟨y,z,H⟩:=kT (gY w (.cells #[.slice ia t.ins.length ic,.slice oa t.outs.length oc,t.hU] 197)) j (h.c' j);clear h j;go_in;go_wp2_with fail;generalize w.alloc (.cells #[.slice ia t.ins.length ic,.slice oa t.outs.length oc,t.hU] 197)=W at*;obtain⟨ag,ah⟩:=a' y.o;go_loop [3,4] (λU u=> ∃k:Nat,k<=t.outs.length/\u= UZ k/\U= U2 (jd t.outs k)) (λ_ u=>t.outs.length-(intOf u).toNat)
 case atStart=>exact⟨0,iy _,rfl,rfl⟩
 case round=>
  obtain⟨k,ab,rfl,rfl⟩:=hrel;by_cases hlt:k<t.outs.length
  ·obtain⟨b,off,rfl,Y,ad,c0,c1,c2,V⟩:=qX H.o.outs k hlt
   have G:=Hd (uT t.outs k hlt);have ae:(0:Int)<=(k:Int):=UN;have af:(k:Int)<(t.outs.length:Int):=UN;generalize t.outs[k]=i at*;generalize jd t.outs k=m at*;go_wp2_with fail;go_round
   case rel=>exact⟨k+1,UN,by go_num,by rw [G.o]⟩
   case measure=>exact UY
  ·obtain rfl:k=t.outs.length:=UN
   go_wp2;go_ret;exact⟨rfl,z.o⟩
theorem ER (S S':UO)(w:World)(D:Nat)(s:zK)(ma ca ra:UP)(mc cc rc:Nat)(U:vn S w s ma ca ra mc cc rc)(t:po)(ia oa:UP)(ic oc:Nat)(ht:p9 S' w t ia oa ic oc)(bO:1<=D)(bj:D<=12):
 Calls prog 194 #[.agg (qr D s ma mc ca cc ra rc),.agg #[.slice ia t.ins.length ic,.slice oa t.outs.length oc,t.hU]] w (Rt w (.bool (j2 D s t))):=by
 have l1:=(g4.lens U.marks).2;have l2:=(g4.lens U.iJ).2;have l3:=(g4.lens U.li).2;have bp:=(g4.lens ht.ins).2;have bq:=(g4.lens ht.outs).2;unfold maxLen at l1 l2 l3 bp bq;have bI:decide ((D:Int)<1)=false:=iH UN;have bJ:decide ((12:Int)<(D:Int))=false:=iH UN;have bK:(1:Int)<=(D:Int):=UN
 have bL:(D:Int)<=12:=UN
 have K:Hi (j2 D s t=(h' [s.g5,s.acc,s.bind,t.hU]&&(Eh s&&(h' s.marks&&(h' s.iJ&&(h' s.li&&(AX s t&&(t.ins.all (mP D)&&t.outs.all ja)))))))):=rfl;have ah:=(hd (jc w (.cells (qr D s ma mc ca cc ra rc) 141)) (.cells #[.slice ia t.ins.length ic,.slice oa t.outs.length oc,t.hU] 197));have V:=Hd (ji w (.cells (qr D s ma mc ca cc ra rc) 141) (.cells #[.slice ia t.ins.length ic,.slice oa t.outs.length oc,t.hU] 197)).2;have Y:=Hd (ji w (.cells (qr D s ma mc ca cc ra rc) 141) (.cells #[.slice ia t.ins.length ic,.slice oa t.outs.length oc,t.hU] 197)).1;have u:=Hd ah;have aM:((w.alloc (.cells (qr D s ma mc ca cc ra rc) 141)).alloc (.cells #[.slice ia t.ins.length ic,.slice oa t.outs.length oc,t.hU] 197)).heap.size=w.heap.size+1+1:=by rw [U4,U4]
 have ao:=FI ((w.alloc (.cells (qr D s ma mc ca cc ra rc) 141)).alloc (.cells #[.slice ia t.ins.length ic,.slice oa t.outs.length oc,t.hU] 197)) 24 U.g5 U.acc U.bind ht.hU;rw [aM]at ao;obtain⟨ax,al,ay⟩:=kT ao (U.c' ah) (ht.c' ah);clear ao aM ah U ht;go_in;go_wp2_with fail;generalize (w.alloc (.cells (qr D s ma mc ca cc ra rc) 141)).alloc (.cells #[.slice ia t.ins.length ic,.slice oa t.outs.length oc,t.hU] 197)=W at*
 refine UR (qG (λ_=>True) _ _ 4 4 [s.g5,s.acc,s.bind,t.hU] rfl ax.o) λw1 hb1=> ?_;have ad:=d' (jc W (.cells #[s.g5,s.acc,s.bind,t.hU] 24)) hb1;clear hb1 ax;obtain⟨aT,bt⟩:=a' (b' ad V.o);obtain⟨aV,bB⟩:=a' (b' ad Y.o)
 cases aq:h' [s.g5,s.acc,s.bind,t.hU]with
 |false=>
  have j:Hi (j2 D s t=false):=Hd (by rw [K.o];simp only [aq,kH]);go_wp2;go_ret;exact⟨g8 j.o.symm,d' u.o ad⟩
 |true=>
  have bb:=Hd aq;clear aq;go_wp2_with fail;refine UR (oH S w1 ma mc s.marks (gZ.c' al.o.marks ad)) λw2 hb2=> ?_;have ae:=d' ad hb2;clear aT bt aV bB hb2;obtain⟨x2,bv⟩:=a' (b' ae V.o);obtain⟨bC,bD⟩:=a' (b' ae Y.o)
  cases ar:h' s.marks with
  |false=>
   have j:Hi (j2 D s t=false):=Hd (by rw [K.o];simp only [ar,kH,ll]);go_wp2;go_ret;exact⟨g8 j.o.symm,d' u.o ae⟩
  |true=>
   have be:=Hd ar;clear ar;go_wp2_with fail;refine UR (oH S w2 ca cc s.iJ (gZ.c' al.o.iJ ae)) λbr hb3=> ?_;have af:=d' ae hb3;clear x2 bv bC bD hb3;obtain⟨bw,bx⟩:=a' (b' af V.o);obtain⟨bE,bF⟩:=a' (b' af Y.o)
   cases au:h' s.iJ with
   |false=>
    have j:Hi (j2 D s t=false):=Hd (by rw [K.o];simp only [au,kH,ll]);go_wp2;go_ret;exact⟨g8 j.o.symm,d' u.o af⟩
   |true=>
    have bf:=Hd au;clear au;go_wp2_with fail;refine UR (oH S br ra rc s.li (gZ.c' al.o.li af)) λbT aO=> ?_;have y:=d' af aO;clear bw bx bE bF aO;obtain⟨bz,bA⟩:=a' (b' y V.o);obtain⟨bG,bH⟩:=a' (b' y Y.o)
    cases av:h' s.li with
    |false=>
     have j:Hi (j2 D s t=false):=Hd (by rw [K.o];simp only [av,kH,ll]);go_wp2;go_ret;exact⟨g8 j.o.symm,d' u.o y⟩
    |true=>
     have bg:=Hd av;clear av;by_cases ag:s.iK<=4294967295/\s.wd<=4294967295/\s.jn<=4294967295
     ·have aj:Hi (Eh s=true):=iP ag
      obtain⟨az,a2,bi⟩:=ag;by_cases G:(t.ins.length=s.marks.length/\t.ins.length<=4)/\t.outs.length=s.iJ.length/\t.outs.length=s.li.length/\t.outs.length<=4
      ·have ak:Hi (AX s t=true):=iP G
       have aA:((t.ins.length:Int)==(s.marks.length:Int))=true:=(by rw [iO];omega);have aC:((t.ins.length:Int) != (s.marks.length:Int))=false:=(by rw [jt];omega);have aD:(t.ins.length:Int)<=4:=UN;have b2:((t.outs.length:Int)==(s.iJ.length:Int))=true:=(by rw [iO];omega);have aE:((t.outs.length:Int) != (s.iJ.length:Int))=false:=(by rw [jt];omega);have b3:((t.outs.length:Int)==(s.li.length:Int))=true:=(by rw [iO];omega);have aF:((t.outs.length:Int) != (s.li.length:Int))=false:=(by rw [jt];omega);have bM:(t.outs.length:Int)<=4:=UN;clear G;go_wp2_with fail;clear bz bA bG bH;go_loopw [5] (λaw wr=> ∃k:Nat,k<=t.ins.length/\aw= UZ k/\Hi ((t.ins.take k).all (mP D)=true)/\BW W wr) (λaw _=>t.ins.length-(intOf aw).toNat)
       case atStart=>exact⟨0,iy _,rfl,rfl,y⟩
       case round=>
        obtain⟨k,bQ,rfl,aN,z⟩:=hrel;obtain⟨bV,aT⟩:=a' (b' z V.o);obtain⟨bW,aV⟩:=a' (b' z Y.o);by_cases hlt:k<t.ins.length
        ·obtain⟨b,off,pa,pc,rfl,bP,bn,aQ,c0,c1,c2,aG,aH,aI,aJ,aK,aL⟩:=ow (h8.c' ay.o.ins z) k hlt
         obtain⟨bm,bo,a9,a8⟩:=oX (all_false (mP D) t.ins k hlt) (jW (mP D) t.ins k hlt) aQ bn;clear aQ;have bR:(0:Int)<=(k:Int):=UN;have bS:(k:Int)<(t.ins.length:Int):=UN;generalize t.ins[k]=i at*
         have ab: ∀(d:Nat) (os:Array Obj),Calls prog 273 #[.agg (tx i pa pc),UZ D] (grow (redrawn wr d) os) λe w'=>e= .returned (.bool (mP D i))/\Below (grow (redrawn wr d) os).heap.size (grow (redrawn wr d) os) w':=λd os=>
          yz S' _ i a8.o pa pc (gZ.c' a9.o (lm wr d os)) D bj
         have aU:=g0 (b' z V.o);have aW:=g0 (b' z Y.o);have aX:=hW c0;have aY:=hW c1;have aZ:=hW c2;have a0:=hW aG;have a1:=hW aH;have a3:=hW aI;have a4:=hW aJ;have a5:=hW aK;have a6:=hW aL;clear c0 c1 c2 aG aH aI aJ aK aL
         cases ai:mP D i with
         |true=>
          have bh:Hi ((t.ins.take (k+1)).all (mP D)=true):=Hd (by rw [bo.o,aN.o,ai];rfl);rw [ai]at ab;go_wp2;refine m6 ?_
          repeat (first|go_big_quiet_step (exact ie (ab _ _))|quiet_step (exact ie (ab _ _)))
          refine lz ?_;intro wq ap;clear aU aW aX aY aZ a0 a1 a3 a4 a5 a6;go_wp2;go_roundw
          case rel=>exact⟨k+1,UN,by go_num,bh,d' z ap⟩
          case measure=>exact UY
         |false=>
          have a7:=Hd (bm.o ai);have j:Hi (j2 D s t=false):=Hd (by rw [K.o];simp only [a7.o,kH,ll]);rw [ai]at ab;go_wp2;refine m6 ?_
          repeat (first|go_big_quiet_step (exact ie (ab _ _))|quiet_step (exact ie (ab _ _)))
          refine lz ?_;intro wq ap;clear aU aW aX aY aZ a0 a1 a3 a4 a5 a6;go_wp2;go_ret;exact⟨g8 j.o.symm,d' u.o (d' z ap)⟩
        ·obtain rfl:k=t.ins.length:=UN
         have aP:t.ins.all (mP D)=true:=(by have:=aN.o;rw [Sw]at this;exact this);have j:Hi (j2 D s t=t.outs.all ja):=Hd (by rw [K.o,bb.o,be.o,bf.o,bg.o,aj.o,ak.o,aP];rfl);clear aP;go_wp2_with fail;refine UR (yx S' wr oa oc t.outs (i6.c' ay.o.outs z)) λbU bk=> ?_;go_wp2;go_ret;exact⟨g8 j.o.symm,d' u.o (d' z bk)⟩
      ·have ak:Hi (AX s t=false):=iH G
       have j:Hi (j2 D s t=false):=Hd (by rw [K.o];simp only [ak.o,kH,ll]);by_cases l0:t.ins.length=s.marks.length
       ·have aA:(((t.ins.length:Int)==(s.marks.length:Int)))=true:=by rw [iO];omega
        have aC:(((t.ins.length:Int) != (s.marks.length:Int)))=false:=(by rw [jt];omega);by_cases l1:t.ins.length<=4
        ·have aD:(t.ins.length:Int)<=4:=by omega
         by_cases l2:t.outs.length=s.iJ.length
         ·have b2:(((t.outs.length:Int)==(s.iJ.length:Int)))=true:=by rw [iO];omega
          have aE:(((t.outs.length:Int) != (s.iJ.length:Int)))=false:=(by rw [jt];omega);by_cases l3:t.outs.length=s.li.length
          ·have b3:(((t.outs.length:Int)==(s.li.length:Int)))=true:=by rw [iO];omega
           have aF:(((t.outs.length:Int) != (s.li.length:Int)))=false:=(by rw [jt];omega);have bN: ¬(t.outs.length:Int)<=4:=λh=>G ⟨⟨l0,l1⟩,l2,l3,UN⟩;clear G l0 l2 l3;go_wp2;go_ret;exact⟨g8 j.o.symm,d' u.o y⟩
          ·have b3:(((t.outs.length:Int)==(s.li.length:Int)))=false:=by rw [je];omega
           have aF:(((t.outs.length:Int) != (s.li.length:Int)))=true:=(by rw [iB];omega);clear G l3 l0 l2;go_wp2;go_ret;exact⟨g8 j.o.symm,d' u.o y⟩
         ·have b2:(((t.outs.length:Int)==(s.iJ.length:Int)))=false:=by rw [je];omega
          have aE:(((t.outs.length:Int) != (s.iJ.length:Int)))=true:=(by rw [iB];omega);clear G l2 l0;go_wp2;go_ret;exact⟨g8 j.o.symm,d' u.o y⟩
        ·have aD: ¬(t.ins.length:Int)<=4:=UN
         clear G l1 l0;go_wp2;go_ret;exact⟨g8 j.o.symm,d' u.o y⟩
       ·have aA:(((t.ins.length:Int)==(s.marks.length:Int)))=false:=by rw [je];omega
        have aC:(((t.ins.length:Int) != (s.marks.length:Int)))=true:=(by rw [iB];omega);clear G l0;go_wp2;go_ret;exact⟨g8 j.o.symm,d' u.o y⟩
     ·have aj:Hi (Eh s=false):=iH ag
      have j:Hi (j2 D s t=false):=Hd (by rw [K.o];simp only [aj.o,kH,ll]);by_cases az:s.iK<=4294967295
      ·by_cases a2:s.wd<=4294967295
       ·have bi: ¬s.jn<=4294967295:=λh=>ag ⟨az,a2,h⟩
        go_wp2;go_ret;exact⟨g8 j.o.symm,d' u.o y⟩
       ·go_wp2
        go_ret;exact⟨g8 j.o.symm,d' u.o y⟩
      ·go_wp2
       go_ret;exact⟨g8 j.o.symm,d' u.o y⟩
theorem EV (S S':UO)(w:World)(D:Nat)(s:zK)(ma ca ra:UP)(mc cc rc:Nat)(bh:vn S w s ma ca ra mc cc rc)(t:po)(ia oa:UP)(ic oc:Nat)(ht:p9 S' w t ia oa ic oc)(bC:1<=D)(bD:D<=12):
 Calls prog 132 #[.agg ri,.agg (qr D s ma mc ca cc ra rc),.agg #[.slice ia t.ins.length ic,.slice oa t.outs.length oc,t.hU]] w (Rt w (UZ (lU D s t))):=by
 have aL:Hi (lU D s t=if j2 D s t=true then (if lI (r6 s t) t.ins.length=0 then (if jv (pM s t) t.outs.length=true then (if 0<s.iK/\s.acc≠iD 7 [t.hU]then 21 else (if si s t=true then 0 else 13))else 1)else lI (r6 s t) t.ins.length)else 1):=rfl;have aI:=(hd (hd (jc w (.cells ri 36)) (.cells (qr D s ma mc ca cc ra rc) 141)) (.cells #[.slice ia t.ins.length ic,.slice oa t.outs.length oc,t.hU] 197));have a2:=Hd (lb w (.cells ri 36) (.cells (qr D s ma mc ca cc ra rc) 141) (.cells #[.slice ia t.ins.length ic,.slice oa t.outs.length oc,t.hU] 197)).2.2;have av:=Hd (lb w (.cells ri 36) (.cells (qr D s ma mc ca cc ra rc) 141) (.cells #[.slice ia t.ins.length ic,.slice oa t.outs.length oc,t.hU] 197)).2.1;have V:=Hd (lb w (.cells ri 36) (.cells (qr D s ma mc ca cc ra rc) 141) (.cells #[.slice ia t.ins.length ic,.slice oa t.outs.length oc,t.hU] 197)).1;obtain⟨ag,aG,ah⟩:=kT aI (bh.c' aI) (ht.c' aI);have bA:=(g4.lens ht.ins).2;have bB:=(g4.lens ht.outs).2;unfold maxLen at bA bB;clear aI bh ht;go_in;go_wp2_with fail;generalize ((w.alloc (.cells ri 36)).alloc (.cells (qr D s ma mc ca cc ra rc) 141)).alloc (.cells #[.slice ia t.ins.length ic,.slice oa t.outs.length oc,t.hU] 197)=W at*
 refine UR (ER S S' W D s ma ca ra mc cc rc aG.o t ia oa ic oc ah.o bC bD) λw1 hb1=> ?_
 cases aY:j2 D s t with
 |false=>
  have u:Hi (lU D s t=1):=Hd (by rw [aL.o,aY];rfl);go_wp2;go_ret;exact⟨g2 u.o.symm,d' ag.o hb1⟩
 |true=>
  obtain⟨k1,bi,bj,bZ,b0,bk,bm⟩:=uL aY;obtain⟨bo,bp,bq,br,bt⟩:=zL k1 bi bj bk bm;have aM:Hi (lU D s t=(if lI (r6 s t) t.ins.length=0 then (if jv (pM s t) t.outs.length=true then (if 0<s.iK/\s.acc≠iD 7 [t.hU]then 21 else (if si s t=true then 0 else 13))else 1)else lI (r6 s t) t.ins.length)):=Hd (by rw [aL.o,aY];rfl);clear aL k1 bi bj bk bm;go_wp2;go_loopw [7] (λaq wr=> ∃k:Nat,k<=t.ins.length/\aq= UZ k/\Hi (lI (r6 s t) k=0)/\BW W wr) (λaq _=>t.ins.length-(intOf aq).toNat)
  case atStart=>exact⟨0,iy _,rfl,rfl,hb1⟩
  case round=>
   obtain⟨k,bG,rfl,ae,j⟩:=hrel;obtain⟨ar,au⟩:=a' (b' j V.o);by_cases hlt:k<t.ins.length
   ·obtain⟨b,off,pa,pc,rfl,y,aX,bg,c0,c1,c2,ai,a3,a4,a5,a6,a7⟩:=ow (h8.c' ah.o.ins j) k hlt
    have be:k<s.marks.length:=(by have:=bo.o;omega);obtain⟨bT,b5,rfl,bW,bL,m1,ay⟩:=il (gZ.c' aG.o.marks j) k be;have a9:=getD_at s.marks 0 k be;have aV:=TJ.1 br.o t.ins[k] (z3 hlt);have aW:=yL aV;have bv:=Hd (He aV);have K:Hi (r6 s t k=iM s.g5 t.ins[k] s.marks[k]):=by
     show _=_;unfold r6;rw [z2 hlt,a9]
    clear a9 aV;generalize t.ins[k]=i at*;generalize s.marks[k]=mk at*;obtain⟨bz,bw⟩:=ik bg aX;clear bg;have bI:(0:Int)<=(k:Int):=UN;have bJ:(k:Int)<(s.marks.length:Int):=UN;have bK:(k:Int)<(t.ins.length:Int):=UN;have aT: ∀(d:Nat) (os:Array Obj),Calls prog 195 #[.agg ri,s.g5,mk,.agg (tx i pa pc)] (grow (redrawn wr d) os) λe w'=>e= .returned (UZ (iM s.g5 i mk))/\Below (grow (redrawn wr d) os).heap.size (grow (redrawn wr d) os) w':=λd os=>
     EG S' _ s.g5 mk i bw.o pa pc (gZ.c' bz.o (lm wr d os)) aW.1 aW.2.1 aW.2.2 bv.o
    have a1:=g0 (b' j a2.o);have G:=g0 (b' j av.o);have z:=g0 (b' j V.o);have ao:=hW c0;have q1:=hW c1;have q2:=hW c2;have ap:=hW ai;have bM:=hW a3;have bN:=hW a4;have bO:=hW a5;have bP:=hW a6;have bQ:=hW a7;have bR:=hW ay;go_wp2_with fail;clear c0 c1 c2 ai a3 a4 a5 a6 a7 ay ar au;refine m6 ?_
    repeat (first|go_big_quiet_step (exact ie (aT _ _))|quiet_step (exact ie (aT _ _)))
    refine lz ?_;intro wq bE;clear a1 G z bR aT ao q1 q2 ap bM bN bO bP bQ;have af:=d' j bE;by_cases al:iM s.g5 i mk=0
    ·have aN:Hi (lI (r6 s t) (k+1)=0):=wK ae.o (by rw [K.o,al])
     rw [al];go_wp2;go_roundw
     case rel=>exact⟨k+1,UN,by go_num,aN,af⟩
     case measure=>exact UY
    ·have u:Hi (lU D s t=iM s.g5 i mk):=by
      show _=_;have h1:=sY ae.o (by rw [K.o];exact al) t.ins.length hlt;rw [K.o]at h1;rw [aM.o,h1,g3 al]
     have b7:(iM s.g5 i mk==0)=false:=(by rw [je];exact al);have b8:(iM s.g5 i mk != 0)=true:=(by rw [iB];exact al);clear al K;generalize iM s.g5 i mk=bV at*;go_wp2;go_ret;exact⟨g2 u.o.symm,d' ag.o af⟩
   ·obtain rfl:k=t.ins.length:=UN
    have aH:Hi (lU D s t=(if jv (pM s t) t.outs.length=true then (if 0<s.iK/\s.acc≠iD 7 [t.hU]then 21 else (if si s t=true then 0 else 13))else 1)):=Hd (by rw [aM.o,g7 ae.o]);clear aM ae;go_wp2_with fail;clear ar au;go_loopw [9] (λaq wr=> ∃k:Nat,k<=t.outs.length/\aq= UZ k/\Hi (jv (pM s t) k=true)/\BW W wr) (λaq _=>t.outs.length-(intOf aq).toNat)
    case atStart=>exact⟨0,iy _,rfl,rfl,j⟩
    case round=>
     clear j;obtain⟨k,bG,rfl,ae,j⟩:=hrel;by_cases hlt:k<t.outs.length
     ·obtain⟨b,off,rfl,y,aX,c0,c1,c2,ai⟩:=qX (i6.c' ah.o.outs j) k hlt
      have bb:k<s.iJ.length:=(by have:=bp.o;omega);have bf:k<s.li.length:=(by have:=bq.o;omega);obtain⟨bc,b4,rfl,hbc,bL,m1,aQ⟩:=il (gZ.c' aG.o.iJ j) k bb;obtain⟨bU,b6,rfl,bX,b1,n1,aU⟩:=il (gZ.c' aG.o.li j) k bf;have bH:=TJ.1 bt.o t.outs[k] (z3 hlt);have K:Hi (pM s t k=((ip t.outs[k]==s.iJ[k])&&(t.outs[k].jr==s.li[k]))):=by
       show _=_;unfold pM;rw [z2 hlt,getD_at s.iJ 0 k bb,getD_at s.li 0 k bf]
      generalize t.outs[k]=n at*;generalize s.iJ[k]=cm at*;generalize s.li[k]=aE at*
      have bI:(0:Int)<=(k:Int):=UN;have bJ:(k:Int)<(s.iJ.length:Int):=UN;have bK:(k:Int)<(s.li.length:Int):=UN;have bY:(k:Int)<(t.outs.length:Int):=UN;obtain⟨ar,au⟩:=a' (b' j V.o);have bx:=Hd aX;have ay: ∀(d:Nat) (os:Array Obj),Calls prog 196 #[.agg ri,.agg #[n.value,n.owner,n.jr,n.blind]] (grow (redrawn wr d) os) λe w'=>e= .returned (.tuple #[(ip n),true])/\Below (grow (redrawn wr d) os).heap.size (grow (redrawn wr d) os) w':=λd os=>by
       have:=rZ (grow (redrawn wr d) os) n bx.o;rw [bH]at this;exact this
      have a1:=g0 (b' j a2.o);have z:=g0 (b' j V.o);have ao:=hW c0;have q1:=hW c1;have q2:=hW c2;have ap:=hW ai;go_wp2_with fail;clear ar au;refine m6 ?_
      repeat (first|go_big_quiet_step (exact ie (ay _ _))|quiet_step (exact ie (ay _ _)))
      refine lz ?_;intro w2 ak;clear a1 z ao q1 q2 ap ay;have af:=d' j ak;have G:=g0 (b' af av.o);have z:=g0 (b' af V.o);have ao:=hW ((ak.cell (ko c0)).trans c0);have q1:=hW ((ak.cell (ko c1)).trans c1);have q2:=hW ((ak.cell (ko c2)).trans c2);have ap:=hW ((ak.cell (ko ai)).trans ai);have aZ:=hW ((ak.cell (ko aQ)).trans aQ);have a0:=hW ((ak.cell (ko aU)).trans aU);clear c0 c1 c2 ai aQ aU;by_cases aj:ip n=cm
      ·have az:(ip n==cm)=true:=by rw [iO];exact aj
       have aO:(ip n != cm)=false:=(by rw [jt];exact aj);by_cases ax:n.jr=aE
       ·have b2:(n.jr==aE)=true:=by rw [iO];exact ax
        have aA:(n.jr != aE)=false:=(by rw [jt];exact ax);have aN:Hi (jv (pM s t) (k+1)=true):=lg ae.o (by rw [K.o,az,b2];rfl);clear aj ax;clear K;generalize ip n=a8 at*;go_wp2;refine m6 ?_
        repeat (first|go_big_quiet_step (fail)|quiet_step (fail))
        refine lz ?_;intro bn aC;clear G z ao q1 q2 ap aZ a0;go_wp2;go_roundw
        case rel=>exact⟨k+1,UN,by go_num,aN,d' af aC⟩
        case measure=>exact UY
       ·have b2:(n.jr==aE)=false:=by rw [je];exact ax
        have aA:(n.jr != aE)=true:=(by rw [iB];exact ax);have u:Hi (lU D s t=1):=by
         show _=_;rw [aH.o,jp (k:=k) (by rw [K.o,b2,ll]) hlt];rfl
        clear aj ax;clear K;generalize ip n=a8 at*;go_wp2;refine m6 ?_
        repeat (first|go_big_quiet_step (fail)|quiet_step (fail))
        refine lz ?_;intro bn aC;clear G z ao q1 q2 ap aZ a0;go_wp2;go_ret;exact⟨g2 u.o.symm,d' ag.o (d' af aC)⟩
      ·have az:(ip n==cm)=false:=by rw [je];exact aj
       have aO:(ip n != cm)=true:=(by rw [iB];exact aj);have u:Hi (lU D s t=1):=by
        show _=_;rw [aH.o,jp (k:=k) (by rw [K.o,az,kH]) hlt];rfl
       clear aj;clear K;generalize ip n=a8 at*;go_wp2;refine m6 ?_
       repeat (first|go_big_quiet_step (fail)|quiet_step (fail))
       refine lz ?_;intro bn aC;clear G z ao q1 q2 ap aZ a0;go_wp2;go_ret;exact⟨g2 u.o.symm,d' ag.o (d' af aC)⟩
     ·obtain rfl:k=t.outs.length:=UN
      have aw:Hi (lU D s t=(if 0<s.iK/\s.acc≠iD 7 [t.hU]then 21 else (if si s t=true then 0 else 13))):=Hd (by rw [aH.o,g7 ae.o]);clear aH ae;obtain⟨ar,au⟩:=a' (b' j V.o);by_cases aK:0<s.iK
      ·have bF:decide (0<s.iK)=true:=iP aK
       go_wp2_with fail;clear ar au;have G:=g0 (b' j av.o);have z:=g0 (b' j V.o);refine m6 ?_
       repeat (first|go_big_quiet_step (exact ie (uQ _ t.hU ah.o.hU))|quiet_step (exact ie (uQ _ t.hU ah.o.hU)))
       refine lz ?_;intro aF aJ;clear G z;by_cases ad:s.acc=iD 7 [t.hU]
       ·have az:(s.acc==iD 7 [t.hU])=true:=by rw [iO];exact ad
        have aO:(s.acc != iD 7 [t.hU])=false:=(by rw [jt];exact ad);have Y:Hi (lU D s t=if si s t=true then 0 else 13):=Hd (by rw [aw.o,g3 (λh=>h.2 ad)]);clear ad aw;generalize iD 7 [t.hU]=hh at*;have ab:=d' j aJ;have G:=g0 (b' ab av.o);have z:=g0 (b' ab V.o);have U: ∀(d:Nat) (os:Array Obj),p9 S' (grow (redrawn aF d) os) t ia oa ic oc:=λd os=>ah.o.c' (d' ab (lm aF d os));go_wp2;refine m6 ?_
        repeat (first|go_big_quiet_step (first|exact ie (qn S' _ t ia oa ic oc (U _ _))|exact ie (pu S' _ t ia oa ic oc (U _ _)))|quiet_step (first|exact ie (qn S' _ t ia oa ic oc (U _ _))|exact ie (pu S' _ t ia oa ic oc (U _ _))))
        refine lz ?_;intro bS aP;clear G z;clear U;have aD:=d' ag.o (d' ab aP)
        cases y:si s t with
        |true=>
         have b2:(IntKind.u64.wrap (jL t.ins t.ins.length+s.iK)==IntKind.u64.wrap (IntKind.u64.wrap (jd t.outs t.outs.length+s.wd)+s.jn))=true:=y;have aA:(IntKind.u64.wrap (jL t.ins t.ins.length+s.iK) != IntKind.u64.wrap (IntKind.u64.wrap (jd t.outs t.outs.length+s.wd)+s.jn))=false:=(by unfold bne;rw [b2];rfl);have u:Hi (lU D s t=0):=Hd (by rw [Y.o,y];rfl);clear y Y;generalize IntKind.u64.wrap (jL t.ins t.ins.length+s.iK)=l1 at*;generalize IntKind.u64.wrap (IntKind.u64.wrap (jd t.outs t.outs.length+s.wd)+s.jn)=l2 at*;go_wp2;go_ret;exact⟨g2 u.o.symm,aD⟩
        |false=>
         have b2:(IntKind.u64.wrap (jL t.ins t.ins.length+s.iK)==IntKind.u64.wrap (IntKind.u64.wrap (jd t.outs t.outs.length+s.wd)+s.jn))=false:=y;have aA:(IntKind.u64.wrap (jL t.ins t.ins.length+s.iK) != IntKind.u64.wrap (IntKind.u64.wrap (jd t.outs t.outs.length+s.wd)+s.jn))=true:=(by unfold bne;rw [b2];rfl);have u:Hi (lU D s t=13):=Hd (by rw [Y.o,y];rfl);clear y Y;generalize IntKind.u64.wrap (jL t.ins t.ins.length+s.iK)=l1 at*;generalize IntKind.u64.wrap (IntKind.u64.wrap (jd t.outs t.outs.length+s.wd)+s.jn)=l2 at*;go_wp2;go_ret;exact⟨g2 u.o.symm,aD⟩
       ·have az:(s.acc==iD 7 [t.hU])=false:=by rw [je];exact ad
        have aO:(s.acc != iD 7 [t.hU])=true:=(by rw [iB];exact ad);have u:Hi (lU D s t=21):=Hd (by rw [aw.o,g7 ⟨aK,ad⟩]);clear ad aw;generalize iD 7 [t.hU]=hh at*;go_wp2;go_ret;exact⟨g2 u.o.symm,d' ag.o (d' j aJ)⟩
      ·have bF:decide (0<s.iK)=false:=iH aK
       have Y:Hi (lU D s t=if si s t=true then 0 else 13):=Hd (by rw [aw.o,g3 (λh=>aK h.1)]);clear aw;go_wp2_with fail;clear ar au;have G:=g0 (b' j av.o);have z:=g0 (b' j V.o);refine m6 ?_
       repeat (first|go_big_quiet_step (fail)|quiet_step (fail))
       refine lz ?_;intro aF aJ;clear G z;have ab:=d' j aJ;have G:=g0 (b' ab av.o);have z:=g0 (b' ab V.o);have U: ∀(d:Nat) (os:Array Obj),p9 S' (grow (redrawn aF d) os) t ia oa ic oc:=λd os=>ah.o.c' (d' ab (lm aF d os));go_wp2;refine m6 ?_
       repeat (first|go_big_quiet_step (first|exact ie (qn S' _ t ia oa ic oc (U _ _))|exact ie (pu S' _ t ia oa ic oc (U _ _)))|quiet_step (first|exact ie (qn S' _ t ia oa ic oc (U _ _))|exact ie (pu S' _ t ia oa ic oc (U _ _))))
       refine lz ?_;intro bS aP;clear G z;clear U;have aD:=d' ag.o (d' ab aP)
       cases y:si s t with
       |true=>
        have b2:(IntKind.u64.wrap (jL t.ins t.ins.length+s.iK)==IntKind.u64.wrap (IntKind.u64.wrap (jd t.outs t.outs.length+s.wd)+s.jn))=true:=y;have aA:(IntKind.u64.wrap (jL t.ins t.ins.length+s.iK) != IntKind.u64.wrap (IntKind.u64.wrap (jd t.outs t.outs.length+s.wd)+s.jn))=false:=(by unfold bne;rw [b2];rfl);have u:Hi (lU D s t=0):=Hd (by rw [Y.o,y];rfl);clear y Y;generalize IntKind.u64.wrap (jL t.ins t.ins.length+s.iK)=l1 at*;generalize IntKind.u64.wrap (IntKind.u64.wrap (jd t.outs t.outs.length+s.wd)+s.jn)=l2 at*;go_wp2;go_ret;exact⟨g2 u.o.symm,aD⟩
       |false=>
        have b2:(IntKind.u64.wrap (jL t.ins t.ins.length+s.iK)==IntKind.u64.wrap (IntKind.u64.wrap (jd t.outs t.outs.length+s.wd)+s.jn))=false:=y;have aA:(IntKind.u64.wrap (jL t.ins t.ins.length+s.iK) != IntKind.u64.wrap (IntKind.u64.wrap (jd t.outs t.outs.length+s.wd)+s.jn))=true:=(by unfold bne;rw [b2];rfl);have u:Hi (lU D s t=13):=Hd (by rw [Y.o,y];rfl);clear y Y;generalize IntKind.u64.wrap (jL t.ins t.ins.length+s.iK)=l1 at*;generalize IntKind.u64.wrap (IntKind.u64.wrap (jd t.outs t.outs.length+s.wd)+s.jn)=l2 at*;go_wp2;go_ret;exact⟨g2 u.o.symm,aD⟩
end Go.Proofs.YtjdiofjjoefnhaaGreatDoor
