/- The relation: sums, what is valid. -/
import Derived.Test.YtjdiofjjoefnhaaGreatDoorMSp
set_option maxRecDepth 100000
set_option maxHeartbeats 8000000
namespace Go.Proofs.YtjdiofjjoefnhaaGreatDoor
open Tryz Go.ChangeShapes Go.WideShapes Go.ChangeAt Go.RowKit Go.Sort
structure vn (S:UO)(w:World)(s:zK)(ma ca ra:UP)(mc cc rc:Nat):Prop where
 g5:iZ s.g5
 iK:iZ s.iK
 wd:iZ s.wd
 jn:iZ s.jn
 acc:iZ s.acc
 bind:iZ s.bind
 marks:gZ.rel S w [.slice ma s.marks.length mc] s.marks
 iJ:gZ.rel S w [.slice ca s.iJ.length cc] s.iJ
 li:gZ.rel S w [.slice ra s.li.length rc] s.li
theorem vn.c' {S:UO}{w w':World}{s:zK}{ma ca ra:UP}{mc cc rc:Nat}(h:vn S w s ma ca ra mc cc rc)(j:BW w w'):vn S w' s ma ca ra mc cc rc:=
 ⟨h.g5,h.iK,h.wd,h.jn,h.acc,h.bind,gZ.c' h.marks j,gZ.c' h.iJ j,gZ.c' h.li j⟩
structure p9 (S:UO)(w:World)(t:po)(ia oa:UP)(ic oc:Nat):Prop where
 ins:h8.rel S w [.slice ia t.ins.length ic] t.ins
 outs:i6.rel S w [.slice oa t.outs.length oc] t.outs
 hU:iZ t.hU
theorem p9.c' {S:UO}{w w':World}{t:po}{ia oa:UP}{ic oc:Nat}(h:p9 S w t ia oa ic oc)(j:BW w w'):p9 S w' t ia oa ic oc:=
 ⟨h8.c' h.ins j,i6.c' h.outs j,h.hU⟩
def jL (l:List iR):Nat->Int
 |0=>0
 |k+1=>IntKind.u64.wrap (jL l k+((l.map (λi=>i.note.value)).getD k 0))
def jd (l:List jZ):Nat->Int
 |0=>0
 |k+1=>IntKind.u64.wrap (jd l k+((l.map (λn=>n.value)).getD k 0))
theorem wG (l:List iR)(k:Nat)(h:k<l.length):jL l (k+1)=IntKind.u64.wrap (jL l k+l[k].note.value):=by
 show IntKind.u64.wrap (jL l k+_)=_;rw [getD_at _ _ k (by simpa using h)];simp
theorem uT (l:List jZ)(k:Nat)(h:k<l.length):jd l (k+1)=IntKind.u64.wrap (jd l k+l[k].value):=by
 show IntKind.u64.wrap (jd l k+_)=_;rw [getD_at _ _ k (by simpa using h)];simp
theorem rE (S:UO)(w:World)(t:po)(ia oa:UP)(ic oc:Nat)(h:p9 S w t ia oa ic oc):
 Calls prog 173 #[.agg #[.slice ia t.ins.length ic,.slice oa t.outs.length oc,t.hU]] w (Rt w (U2 (jL t.ins t.ins.length))):=by
 have G:=(g4.lens h.ins).2;unfold maxLen at G;have y:=jc w (.cells #[.slice ia t.ins.length ic,.slice oa t.outs.length oc,t.hU] 197);have H:=Hd (h.c' y);clear h;go_wp2;go_loopw [3,9] (λV u wr=> ∃k:Nat,k<=t.ins.length/\u= UZ k/\V= U2 (jL t.ins k)/\Below (w.alloc (.cells #[.slice ia t.ins.length ic,.slice oa t.outs.length oc,t.hU] 197)).heap.size (w.alloc (.cells #[.slice ia t.ins.length ic,.slice oa t.outs.length oc,t.hU] 197)) wr) (λ_ u _=>t.ins.length-(intOf u).toNat)
 case atStart=>exact⟨0,iy _,rfl,rfl,g' _ _⟩
 case round=>
  obtain⟨k,ai,rfl,rfl,j⟩:=hrel;by_cases hlt:k<t.ins.length
  ·obtain⟨b,off,pa,pc,rfl,ah,aj,U,c0,c1,c2,Y,ab,ad,ae,af,ag⟩:=ow (h8.c' H.o.ins j) k hlt
   have z:Hi (jL t.ins (k+1)=IntKind.u64.wrap (jL t.ins k+t.ins[k].note.value)):=wG t.ins k hlt;clear U;generalize t.ins[k]=i at*;generalize jL t.ins k=m at*;have K:=jc wr (.cells (tx i pa pc) 265);go_wp2;go_roundw
   case rel=>exact⟨k+1,UN,by go_num,by rw [z.o],d' j K⟩
   case measure=>exact UY
  ·obtain rfl:k=t.ins.length:=UN
   go_wp2;go_ret;exact⟨rfl,d' y j⟩
theorem qo (S:UO)(w:World)(t:po)(ia oa:UP)(ic oc:Nat)(h:p9 S w t ia oa ic oc):
 Calls prog 174 #[.agg #[.slice ia t.ins.length ic,.slice oa t.outs.length oc,t.hU]] w (Rt w (U2 (jd t.outs t.outs.length))):=by
 have G:=(g4.lens h.outs).2;unfold maxLen at G;have y:=jc w (.cells #[.slice ia t.ins.length ic,.slice oa t.outs.length oc,t.hU] 197);have H:=Hd (h.c' y);clear h;go_wp2;go_loopw [3,9] (λU u wr=> ∃k:Nat,k<=t.outs.length/\u= UZ k/\U= U2 (jd t.outs k)/\Below (w.alloc (.cells #[.slice ia t.ins.length ic,.slice oa t.outs.length oc,t.hU] 197)).heap.size (w.alloc (.cells #[.slice ia t.ins.length ic,.slice oa t.outs.length oc,t.hU] 197)) wr) (λ_ u _=>t.outs.length-(intOf u).toNat)
 case atStart=>exact⟨0,iy _,rfl,rfl,g' _ _⟩
 case round=>
  obtain⟨k,ab,rfl,rfl,j⟩:=hrel;by_cases hlt:k<t.outs.length
  ·obtain⟨b,off,rfl,Y,ad,c0,c1,c2,V⟩:=qX (i6.c' H.o.outs j) k hlt
   have z:Hi (jd t.outs (k+1)=IntKind.u64.wrap (jd t.outs k+t.outs[k].value)):=uT t.outs k hlt;generalize t.outs[k]=n at*;generalize jd t.outs k=m at*;have K:=jc wr (.cells #[n.value,n.owner,n.jr,n.blind] 260);go_wp2;go_roundw
   case rel=>exact⟨k+1,UN,by go_num,by rw [z.o],d' j K⟩
   case measure=>exact UY
  ·obtain rfl:k=t.outs.length:=UN
   go_wp2;go_ret;exact⟨rfl,d' y j⟩
def mP (D:Nat)(i:iR):Bool:=lf i&&(decide (i.path.length=D)&&decide (i.hO<2^D))
def Eh (s:zK):Bool:=decide (s.iK<=4294967295/\s.wd<=4294967295/\s.jn<=4294967295)
def AX (s:zK)(t:po):Bool:=decide ((t.ins.length=s.marks.length/\t.ins.length<=4)/\t.outs.length=s.iJ.length/\t.outs.length=s.li.length/\t.outs.length<=4)
def j2 (D:Nat)(s:zK)(t:po):Bool:=
 h' [s.g5,s.acc,s.bind,t.hU]&&(Eh s&&(h' s.marks&&(h' s.iJ&&(h' s.li&&(AX s t&&(t.ins.all (mP D)&&t.outs.all ja))))))
theorem Bw (S S':UO)(w:World)(D:Nat)(s:zK)(ma ca ra:UP)(mc cc rc:Nat)(V:vn S w s ma ca ra mc cc rc)(t:po)(ia oa:UP)(ic oc:Nat)(ht:p9 S' w t ia oa ic oc)(bK:1<=D)(bL:D<=12):
 Calls prog 169 #[.agg (qr D s ma mc ca cc ra rc),.agg #[.slice ia t.ins.length ic,.slice oa t.outs.length oc,t.hU]] w (Rt w (.bool (j2 D s t))):=by
 have l1:=(g4.lens V.marks).2;have l2:=(g4.lens V.iJ).2;have l3:=(g4.lens V.li).2;have bD:=(g4.lens ht.ins).2;have bE:=(g4.lens ht.outs).2;unfold maxLen at l1 l2 l3 bD bE;have bG:(1:Int)<=(D:Int):=UN
 have bI:decide ((D:Int)<1)=false:=iH UN;have bJ:decide ((12:Int)<(D:Int))=false:=iH UN;have bH:(D:Int)<=12:=UN
 obtain⟨br,bt,bv⟩:=pL ⟨D,UN⟩;simp only at br bt bv;have av:Hi (∀i:iR,mP D i=(lf i&&(decide (i.path.length=D)&&decide (i.hO<2^D)))):=λ_=>rfl;generalize bM:(2:Int)^D=aF at*;have ad:Hi (j2 D s t=(h' [s.g5,s.acc,s.bind,t.hU]&&(Eh s&&(h' s.marks&&(h' s.iJ&&(h' s.li&&(AX s t&&(t.ins.all (mP D)&&t.outs.all ja)))))))):=rfl;have a0:=jc w (.cells (qr D s ma mc ca cc ra rc) 141);have ax:=hd a0 (.cells #[.slice ia t.ins.length ic,.slice oa t.outs.length oc,t.hU] 197);have a9:=iq (o':= .cells #[.slice ia t.ins.length ic,.slice oa t.outs.length oc,t.hU] 197) (gY w (.cells (qr D s ma mc ca cc ra rc) 141));have qB:=gY (w.alloc (.cells (qr D s ma mc ca cc ra rc) 141)) (.cells #[.slice ia t.ins.length ic,.slice oa t.outs.length oc,t.hU] 197);have aG:(w.alloc (.cells (qr D s ma mc ca cc ra rc) 141)).heap.size=w.heap.size+1:=U4 ..;rw [aG]at qB;have aX:((w.alloc (.cells (qr D s ma mc ca cc ra rc) 141)).alloc (.cells #[.slice ia t.ins.length ic,.slice oa t.outs.length oc,t.hU] 197)).heap.size=w.heap.size+1+1:=by rw [U4,aG]
 have aH:=FI ((w.alloc (.cells (qr D s ma mc ca cc ra rc) 141)).alloc (.cells #[.slice ia t.ins.length ic,.slice oa t.outs.length oc,t.hU] 197)) 24 V.g5 V.acc V.bind ht.hU;rw [aX]at aH;have aM:=Hd aH;clear aH aX;obtain⟨aE,aO,ai,aj,u⟩:=zL (V.c' ax) (ht.c' ax) a9 qB ax;clear a0 ax a9 qB aG V ht;go_in;go_wp2_with fail;generalize (w.alloc (.cells (qr D s ma mc ca cc ra rc) 141)).alloc (.cells #[.slice ia t.ins.length ic,.slice oa t.outs.length oc,t.hU] 197)=W at*
 refine UR (nb (λ_=>True) _ _ 4 [s.g5,s.acc,s.bind,t.hU] aM.o) λw1 hb1=> ?_;have U:=d' (jc W (.cells #[s.g5,s.acc,s.bind,t.hU] 24)) hb1;clear hb1 aM;obtain⟨ae,af⟩:=a' (b' U ai.o);obtain⟨Y,ab⟩:=a' (b' U aj.o)
 cases ag:h' [s.g5,s.acc,s.bind,t.hU]with
 |false=>
  have j:Hi (j2 D s t=false):=Hd (by rw [ad.o,ag];rfl);go_wp2;go_ret;exact⟨g8 j.o.symm,d' u.o U⟩
 |true=>
  by_cases aw:s.iK<=4294967295/\s.wd<=4294967295/\s.jn<=4294967295
  ·have au:Hi (Eh s=true):=iP aw
   obtain⟨aP,a2,bi⟩:=aw;go_wp2_with fail;refine UR (nb S w1 ma mc s.marks (gZ.c' aE.o.marks U)) λw2 hb2=> ?_;have al:=d' U hb2;clear ae af Y ab hb2;obtain⟨ae,af⟩:=a' (b' al ai.o);obtain⟨Y,ab⟩:=a' (b' al aj.o)
   cases az:h' s.marks with
   |false=>
    have j:Hi (j2 D s t=false):=Hd (by rw [ad.o,ag,au.o,az];rfl);go_wp2;go_ret;exact⟨g8 j.o.symm,d' u.o al⟩
   |true=>
    go_wp2_with fail;refine UR (nb S w2 ca cc s.iJ (gZ.c' aE.o.iJ al)) λbF hb3=> ?_;have ao:=d' al hb3;clear ae af Y ab hb3;obtain⟨ae,af⟩:=a' (b' ao ai.o);obtain⟨Y,ab⟩:=a' (b' ao aj.o)
    cases aK:h' s.iJ with
    |false=>
     have j:Hi (j2 D s t=false):=Hd (by rw [ad.o,ag,au.o,az,aK];rfl);go_wp2;go_ret;exact⟨g8 j.o.symm,d' u.o ao⟩
    |true=>
     go_wp2_with fail;refine UR (nb S bF ra rc s.li (gZ.c' aE.o.li ao)) λbQ aZ=> ?_;have G:=d' ao aZ;clear ae af Y ab aZ;obtain⟨ae,af⟩:=a' (b' G ai.o);obtain⟨Y,ab⟩:=a' (b' G aj.o)
     cases a7:h' s.li with
     |false=>
      have j:Hi (j2 D s t=false):=Hd (by rw [ad.o,ag,au.o,az,aK,a7];rfl);go_wp2;go_ret;exact⟨g8 j.o.symm,d' u.o G⟩
     |true=>
      have ak:Hi (j2 D s t=(AX s t&&(t.ins.all (mP D)&&t.outs.all ja))):=Hd (by rw [ad.o,ag,au.o,az,aK,a7];rfl);clear ad;by_cases K:(t.ins.length=s.marks.length/\t.ins.length<=4)/\t.outs.length=s.iJ.length/\t.outs.length=s.li.length/\t.outs.length<=4
      ·have bf:Hi (AX s t=true):=iP K
       obtain⟨⟨k1,a8⟩,ah,ar,bP⟩:=K;have be:=Hd k1;have aQ:((t.ins.length:Int)==(s.marks.length:Int))=true:=(by rw [iO];omega);have aT:((t.ins.length:Int) != (s.marks.length:Int))=false:=(by rw [jt];omega);have b2:((t.outs.length:Int)==(s.iJ.length:Int))=true:=(by rw [iO];omega);have aU:((t.outs.length:Int) != (s.iJ.length:Int))=false:=(by rw [jt];omega);have b3:((t.outs.length:Int)==(s.li.length:Int))=true:=(by rw [iO];omega);have aV:((t.outs.length:Int) != (s.li.length:Int))=false:=(by rw [jt];omega);have aW: ¬(4:Int)<(t.ins.length:Int):=UN;have bj: ¬(4:Int)<(t.outs.length:Int):=UN;clear k1 ah ar;go_wp2;go_loopw [95] (λaL wr=> ∃k:Nat,k<=t.ins.length/\aL= UZ k/\Hi ((t.ins.take k).all (mP D)=true)/\BW W wr) (λaL _=>t.ins.length-(intOf aL).toNat)
       case atStart=>exact⟨0,iy _,rfl,rfl,G⟩
       case round=>
        obtain⟨k,bO,rfl,aY,ap⟩:=hrel;clear ae af Y ab;by_cases hlt:k<t.ins.length
        ·obtain⟨b,off,pa,pc,rfl,bN,bx,a4,c0,c1,c2,bk,bm,bn,bo,bp,bq⟩:=ow (h8.c' aO.o.ins ap) k hlt
         obtain⟨aI,bC⟩:=ik (all_false (mP D) t.ins k hlt) (jW (mP D) t.ins k hlt);generalize t.ins[k]=i at*;have a1:=jc wr (.cells (tx i pa pc) 265);have a3:=gY wr (.cells (tx i pa pc) 265);have a5:=gZ.c' a4 a1;have aN:=Hd bx;have aq:=d' ap a1;go_wp2_with fail;clear c0 c1 c2 bk bm bn bo bp bq a4;generalize wr.alloc (.cells (tx i pa pc) 265)=z at*;have aA:=g0 a3;have aC:=g0 (b' aq ai.o);have aD:=Hd a5;clear a5 a3;have bw:=(g4.lens aD.o).2;unfold maxLen at bw
         cases ay:lf i with
         |false=>
          have y: ∀(d:Nat) (os:Array Obj),Calls prog 258 #[.agg (tx i pa pc)] (grow (redrawn z d) os) λe w'=>e= .returned (.bool false)/\Below (grow (redrawn z d) os).heap.size (grow (redrawn z d) os) w':=λd os=>by
           have:=tF S' (grow (redrawn z d) os) i aN.o pa pc (gZ.c' aD.o (lm z d os));rw [ay]at this;exact this
          have j:Hi (j2 D s t=false):=by
           show _=_;rw [ak.o,aI.o (by rw [av.o,ay];rfl)];simp
          refine m6 ?_
          repeat (first|go_big_quiet_step (exact ie (y _ _))|quiet_step (exact ie (y _ _)))
          refine lz ?_;intro wq hbq;clear aA aC y;go_wp2;go_ret;exact⟨g8 j.o.symm,d' u.o (d' aq hbq)⟩
         |true=>
          have y: ∀(d:Nat) (os:Array Obj),Calls prog 258 #[.agg (tx i pa pc)] (grow (redrawn z d) os) λe w'=>e= .returned (.bool true)/\Below (grow (redrawn z d) os).heap.size (grow (redrawn z d) os) w':=λd os=>by
           have:=tF S' (grow (redrawn z d) os) i aN.o pa pc (gZ.c' aD.o (lm z d os));rw [ay]at this;exact this
          by_cases aJ:i.path.length=D
          ·have bz:((i.path.length:Int)==(D:Int))=true:=by rw [iO];omega
           have bA:((i.path.length:Int) != (D:Int))=false:=(by rw [jt];omega);have bg:=Hd aJ;clear aJ;by_cases a6:i.hO<aF
           ·have bB:decide (aF<=i.hO)=false:=iH UN
            have bh:Hi ((t.ins.take (k+1)).all (mP D)=true):=by
             show _=_;rw [bC.o,aY.o,av.o,ay,iP bg.o,iP a6];rfl
            refine m6 ?_
            repeat (first|go_big_quiet_step (exact ie (y _ _))|quiet_step (exact ie (y _ _)))
            refine lz ?_;intro wq hbq;clear aA aC y;go_wp2;go_roundw
            case rel=>exact⟨k+1,UN,by go_num,bh,d' aq hbq⟩
            case measure=>exact UY
           ·have bB:decide (aF<=i.hO)=true:=iP UN
            have j:Hi (j2 D s t=false):=by
             show _=_;rw [ak.o,aI.o (by rw [av.o,iH a6];simp)];simp
            refine m6 ?_
            repeat (first|go_big_quiet_step (exact ie (y _ _))|quiet_step (exact ie (y _ _)))
            refine lz ?_;intro wq hbq;clear aA aC y;go_wp2;go_ret;exact⟨g8 j.o.symm,d' u.o (d' aq hbq)⟩
          ·have bz:((i.path.length:Int)==(D:Int))=false:=by rw [je];omega
           have bA:((i.path.length:Int) != (D:Int))=true:=(by rw [iB];omega);have j:Hi (j2 D s t=false):=by
            show _=_;rw [ak.o,aI.o (by rw [av.o,iH aJ];simp)];simp
           refine m6 ?_
           repeat (first|go_big_quiet_step (exact ie (y _ _))|quiet_step (exact ie (y _ _)))
           refine lz ?_;intro wq hbq;clear aA aC y;go_wp2;go_ret;exact⟨g8 j.o.symm,d' u.o (d' aq hbq)⟩
        ·obtain rfl:k=t.ins.length:=UN
         have bb:Hi (t.ins.all (mP D)=true):=(by have:=aY.o;rw [Sw]at this;exact this);obtain⟨Y,ab⟩:=a' (b' ap aj.o);have j:Hi (j2 D s t=t.outs.all ja):=Hd (by rw [ak.o,bf.o,bb.o];rfl);go_wp2_with fail;refine UR (G2 S' wr oa oc t.outs (i6.c' aO.o.outs ap)) λbR hb5=> ?_;go_wp2;go_ret;exact⟨g8 j.o.symm,d' u.o (d' ap hb5)⟩
      ·have j:Hi (j2 D s t=false):=by
        show _=_;have:AX s t=false:=iH K;rw [ak.o,this];rfl
       by_cases k1:t.ins.length=s.marks.length
       ·have aQ:((t.ins.length:Int)==(s.marks.length:Int))=true:=by rw [iO];omega
        have aT:((t.ins.length:Int) != (s.marks.length:Int))=false:=(by rw [jt];omega);by_cases a8:t.ins.length<=4
        ·have aW: ¬(4:Int)<(t.ins.length:Int):=UN
         have be:=Hd k1;by_cases ah:t.outs.length=s.iJ.length
         ·have b2:((t.outs.length:Int)==(s.iJ.length:Int))=true:=by rw [iO];omega
          have aU:((t.outs.length:Int) != (s.iJ.length:Int))=false:=(by rw [jt];omega);by_cases ar:t.outs.length=s.li.length
          ·have b3:((t.outs.length:Int)==(s.li.length:Int))=true:=by rw [iO];omega
           have aV:((t.outs.length:Int) != (s.li.length:Int))=false:=(by rw [jt];omega);have bj:(4:Int)<(t.outs.length:Int):=by
            have: ¬t.outs.length<=4:=λh=>K ⟨⟨k1,a8⟩,ah,ar,h⟩;omega
           clear k1 ah ar K;go_wp2;go_ret;exact⟨g8 j.o.symm,d' u.o G⟩
          ·have b3:((t.outs.length:Int)==(s.li.length:Int))=false:=by rw [je];omega
           have aV:((t.outs.length:Int) != (s.li.length:Int))=true:=(by rw [iB];omega);clear k1 ah ar K;go_wp2;go_ret;exact⟨g8 j.o.symm,d' u.o G⟩
         ·have b2:((t.outs.length:Int)==(s.iJ.length:Int))=false:=by rw [je];omega
          have aU:((t.outs.length:Int) != (s.iJ.length:Int))=true:=(by rw [iB];omega);clear k1 ah K;go_wp2;go_ret;exact⟨g8 j.o.symm,d' u.o G⟩
        ·have aW:(4:Int)<(t.ins.length:Int):=UN
         clear k1 K;go_wp2;go_ret;exact⟨g8 j.o.symm,d' u.o G⟩
       ·have aQ:((t.ins.length:Int)==(s.marks.length:Int))=false:=by rw [je];omega
        have aT:((t.ins.length:Int) != (s.marks.length:Int))=true:=(by rw [iB];omega);clear k1 K;go_wp2;go_ret;exact⟨g8 j.o.symm,d' u.o G⟩
  ·have j:Hi (j2 D s t=false):=by
    show _=_;have:Eh s=false:=iH aw;rw [ad.o,ag,this];rfl
   by_cases aP:s.iK<=4294967295
   ·by_cases a2:s.wd<=4294967295
    ·have bi: ¬s.jn<=4294967295:=λh=>aw ⟨aP,a2,h⟩
     go_wp2;go_ret;exact⟨g8 j.o.symm,d' u.o U⟩
    ·go_wp2
     go_ret;exact⟨g8 j.o.symm,d' u.o U⟩
   ·go_wp2
    go_ret;exact⟨g8 j.o.symm,d' u.o U⟩
def iM (g5:Int)(i:iR)(j:Int):Int:=
 if i.note.owner=kN i.key i.number then
  (if pN i.key i.note.jr=true/\k8 i.key i.note.jr=j then
    (if i.nE=true then (if i.note.value=0 then 0 else 13)
     else (if ja i.note=true/\jo (ip i.note) i.hO i.path=g5 then 0 else 11))
   else 12)
 else 21
theorem yU (n:jZ):iZ (ip n):=by
 unfold ip;split
 ·exact uG _ _
 ·exact ir UN UN
theorem DX (S:UO) (w:World) (p:Nat) (st:Int) (az:r' false st p w) (D:Nat) (s:zK) (ma ca ra:UP) (mc cc rc:Nat) (i:iR) (aA:qk i) (pa:UP) (pc:Nat) (aC:gZ.rel S w [.slice pa i.path.length pc] i.path)
 (h1:i.path.length<=12) (h2:0<=i.hO) (aL:i.hO<=4095) (j:Int):
 Calls prog 170 #[.pointer (some ⟨p,0,none⟩),.agg (qr D s ma mc ca cc ra rc),.agg (tx i pa pc),j] w (Rt w (UZ (iM s.g5 i j))):=by
 have av:=jc w (.cells (qr D s ma mc ca cc ra rc) 141);have al:=hd av (.cells (tx i pa pc) 265);have aD:=iq (o':= .cells (tx i pa pc) 265) (gY w (.cells (qr D s ma mc ca cc ra rc) 141));have qB:=gY (w.alloc (.cells (qr D s ma mc ca cc ra rc) 141)) (.cells (tx i pa pc) 265);have au:(w.alloc (.cells (qr D s ma mc ca cc ra rc) 141)).heap.size=w.heap.size+1:=U4 ..;rw [au]at qB;obtain⟨aE,aj,U,ar,aF,ad⟩:=J1 aD qB al (az.c' al) (gZ.c' aC al) aA;have ak:Hi (iM s.g5 i j=if i.note.owner=kN i.key i.number then (if pN i.key i.note.jr=true/\k8 i.key i.note.jr=j then (if i.nE=true then (if i.note.value=0 then 0 else 13)else (if ja i.note=true/\jo (ip i.note) i.hO i.path=s.g5 then 0 else 11))else 12)else 21):=rfl;clear av al aD qB au az aC aA;go_in;go_wp2_with fail;generalize (w.alloc (.cells (qr D s ma mc ca cc ra rc) 141)).alloc (.cells (tx i pa pc) 265)=W at*;have ai:=g0 aj.o;refine m6 ?_
 repeat (first|go_big_quiet_step (exact ie (Am _ i.key i.number ad.o.key))|quiet_step (exact ie (Am _ i.key i.number ad.o.key)))
 refine lz ?_;intro w1 hb1;clear ai;obtain⟨Y,aq⟩:=a' (b' hb1 aj.o);by_cases G:i.note.owner=kN i.key i.number
 ·have aM:(i.note.owner==kN i.key i.number)=true:=by rw [iO];exact G
  have aN:(i.note.owner != kN i.key i.number)=false:=(by rw [jt];exact G);have ae:Hi (iM s.g5 i j=if pN i.key i.note.jr=true/\k8 i.key i.note.jr=j then (if i.nE=true then (if i.note.value=0 then 0 else 13)else (if ja i.note=true/\jo (ip i.note) i.hO i.path=s.g5 then 0 else 11))else 12):=Hd (by rw [ak.o,g7 G]);clear G ak;generalize kN i.key i.number=aQ at*;go_wp2_with fail;refine UR (E8 w1 p st (ar.o.c' hb1) i.key i.note.jr ad.o.key ad.o.note.jr) λw2 hb2=> ?_;have V:=d' hb1 hb2;clear Y aq hb2;obtain⟨Y,aq⟩:=a' (b' V aj.o)
  cases ax:pN i.key i.note.jr with
  |false=>
   have u:Hi (iM s.g5 i j=12):=Hd (by rw [ae.o,g3 (λh=>by rw [ax]at h;cases h.1)]);go_wp2;go_ret;exact⟨g2 u.o.symm,d' U.o V⟩
  |true=>
   by_cases z:k8 i.key i.note.jr=j
   ·have c1:(k8 i.key i.note.jr==j)=true:=by rw [iO];exact z
    have aG:(k8 i.key i.note.jr != j)=false:=(by rw [jt];exact z);have af:Hi (iM s.g5 i j=if i.nE=true then (if i.note.value=0 then 0 else 13)else (if ja i.note=true/\jo (ip i.note) i.hO i.path=s.g5 then 0 else 11)):=Hd (by rw [ae.o,g7 ⟨ax,z⟩]);clear ae z;generalize k8 i.key i.note.jr=aP at*
    cases ab:i.nE with
    |true=>
     unfold tx at Y;rw [ab]at Y;by_cases K:i.note.value=0
     ·have c2:(i.note.value==0)=true:=by rw [iO];exact K
      have aH:(i.note.value != 0)=false:=(by rw [jt];exact K);have u:Hi (iM s.g5 i j=0):=Hd (by rw [af.o,g7 ab,g7 K]);clear K;go_wp2;go_ret;exact⟨g2 u.o.symm,d' U.o V⟩
     ·have c2:(i.note.value==0)=false:=by rw [je];exact K
      have aH:(i.note.value != 0)=true:=(by rw [iB];exact K);have u:Hi (iM s.g5 i j=13):=Hd (by rw [af.o,g7 ab,g3 K]);clear K;go_wp2;go_ret;exact⟨g2 u.o.symm,d' U.o V⟩
    |false=>
     unfold tx at Y;rw [ab]at Y;have ag:Hi (iM s.g5 i j=if ja i.note=true/\jo (ip i.note) i.hO i.path=s.g5 then 0 else 11):=Hd (by rw [af.o,g3 (by rw [ab];simp)]);go_wp2_with fail;refine UR (ti w2 p st (ar.o.c' V) i.note ad.o.note) λao hb3=> ?_;have ah:=d' V hb3;clear Y aq hb3
     cases ay:ja i.note with
     |false=>
      have u:Hi (iM s.g5 i j=11):=Hd (by rw [ag.o,g3 (λh=>by rw [ay]at h;cases h.1)]);go_wp2_with fail;go_quiet (fail);go_wp2;go_ret;exact⟨g2 u.o.symm,d' U.o (ny ah _)⟩
     |true=>
      have ai:=g0 (b' ah aj.o);have aT:=g0 (b' ah aE.o);unfold tx at ai;rw [ab]at ai;have ap: ∀(d:Nat) (os:Array Obj),Calls prog 262 #[(ip i.note),UZ i.hO,.slice pa i.path.length pc] (grow (redrawn ao d) os) λe w'=>e= .returned (U2 (jo (ip i.note) i.hO i.path))/\Below (grow (redrawn ao d) os).heap.size (grow (redrawn ao d) os) w':=λd os=>
       Hv S _ (ip i.note) i.hO (yU _) pa pc i.path (gZ.c' (gZ.c' aF.o ah) (lm ao d os)) h1 h2 aL
      go_wp2;refine m6 ?_
      repeat (first|go_big_quiet_step (exact ie (ap _ _))|quiet_step (exact ie (ap _ _)))
      refine lz ?_;intro aU aO;clear ai aT ap;have aw:=d' U.o (d' ah aO);by_cases y:jo (ip i.note) i.hO i.path=s.g5
      ·have aI:(jo (ip i.note) i.hO i.path==s.g5)=true:=by rw [iO];exact y
       have aJ:(jo (ip i.note) i.hO i.path != s.g5)=false:=(by rw [jt];exact y);have u:Hi (iM s.g5 i j=0):=Hd (by rw [ag.o,g7 ⟨ay,y⟩]);clear y ag af;generalize jo (ip i.note) i.hO i.path=aK at*;go_wp2;go_ret;exact⟨g2 u.o.symm,aw⟩
      ·have aI:(jo (ip i.note) i.hO i.path==s.g5)=false:=by rw [je];exact y
       have aJ:(jo (ip i.note) i.hO i.path != s.g5)=true:=(by rw [iB];exact y);have u:Hi (iM s.g5 i j=11):=Hd (by rw [ag.o,g3 (λh=>y h.2)]);clear y ag af;generalize jo (ip i.note) i.hO i.path=aK at*;go_wp2;go_ret;exact⟨g2 u.o.symm,aw⟩
   ·have c1:(k8 i.key i.note.jr==j)=false:=by rw [je];exact z
    have aG:(k8 i.key i.note.jr != j)=true:=(by rw [iB];exact z);have u:Hi (iM s.g5 i j=12):=Hd (by rw [ae.o,g3 (λh=>z h.2)]);clear ae z;generalize k8 i.key i.note.jr=aP at*;go_wp2;go_ret;exact⟨g2 u.o.symm,d' U.o V⟩
 ·have aM:(i.note.owner==kN i.key i.number)=false:=by rw [je];exact G
  have aN:(i.note.owner != kN i.key i.number)=true:=(by rw [iB];exact G);have u:Hi (iM s.g5 i j=21):=Hd (by rw [ak.o,g3 G]);clear G ak;generalize kN i.key i.number=aQ at*;go_wp2;go_ret;exact⟨g2 u.o.symm,d' U.o hb1⟩
def lI (f:Nat->Int):Nat->Int
 |0=>0
 |k+1=>if lI f k=0 then f k else lI f k
theorem wK {f:Nat->Int}{k:Nat}(h:lI f k=0)(j:f k=0):lI f (k+1)=0:=by unfold lI;rw [g7 h,j]
theorem sY {f:Nat->Int}{k:Nat}(h:lI f k=0)(j:f k≠0): ∀n,k<n->lI f n=f k
 |0,u=>absurd u (pf _)
 |n+1,u=>by
  unfold lI;rcases kZ k n with h1|h1
  ·rw [sY h j n h1,g3 j]
  ·obtain rfl:k=n:=UN
   rw [g7 h]
def r6 (s:zK)(t:po)(k:Nat):Int:=
 match t.ins[k]? with
 |some i=>iM s.g5 i (s.marks.getD k 0)
 |none=>0
def pM (s:zK)(t:po)(k:Nat):Bool:=
 match t.outs[k]? with
 |some n=>(ip n==s.iJ.getD k 0)&&(n.jr==s.li.getD k 0)
 |none=>true
def si (s:zK)(t:po):Bool:=IntKind.u64.wrap (jL t.ins t.ins.length+s.iK)==IntKind.u64.wrap (IntKind.u64.wrap (jd t.outs t.outs.length+s.wd)+s.jn)
def lU (D:Nat)(s:zK)(t:po):Int:=
 if j2 D s t=true then
  (if lI (r6 s t) t.ins.length=0 then
    (if jv (pM s t) t.outs.length=true then
      (if 0<s.iK/\s.acc≠iD 7 [t.hU]then 21 else (if si s t=true then 0 else 13))
     else 1)
   else lI (r6 s t) t.ins.length)
 else 1
theorem uL {D:Nat}{s:zK}{t:po}(h:j2 D s t=true):t.ins.length=s.marks.length/\t.outs.length=s.iJ.length/\t.outs.length=s.li.length/\t.ins.length<=4/\t.outs.length<=4/\t.ins.all (mP D)=true/\t.outs.all ja=true:=by
 unfold j2 AX at h;simp only [kg,jk]at h;obtain⟨-, -, -, -, -,h1,h2,j⟩:=h;exact⟨h1.1.1,h1.2.1,h1.2.2.1,h1.1.2,h1.2.2.2,h2,j⟩
theorem yL {D:Nat}{i:iR}(h:mP D i=true):i.path.length<=12/\0<=i.hO/\i.hO<=4095:=by
 unfold mP lf at h;simp only [kg,jk]at h;obtain⟨⟨-, -,h1, -⟩, -⟩:=h;exact⟨h1.2.2.2.2,h1.2.2.1,h1.2.2.2.1⟩
theorem Bx (S S':UO)(w:World)(p:Nat)(st:Int)(be:r' false st p w)(D:Nat)(s:zK)(ma ca ra:UP)(mc cc rc:Nat)(bg:vn S w s ma ca ra mc cc rc)(t:po)(ia oa:UP)(ic oc:Nat)(ht:p9 S' w t ia oa ic oc)(bI:1<=D)(bJ:D<=12):
 Calls prog 117 #[.pointer (some ⟨p,0,none⟩),.agg (qr D s ma mc ca cc ra rc),.agg #[.slice ia t.ins.length ic,.slice oa t.outs.length oc,t.hU]] w (Rt w (UZ (lU D s t))):=by
 have a1:=jc w (.cells (qr D s ma mc ca cc ra rc) 141);have ax:=hd a1 (.cells #[.slice ia t.ins.length ic,.slice oa t.outs.length oc,t.hU] 197);have bp:=iq (o':= .cells #[.slice ia t.ins.length ic,.slice oa t.outs.length oc,t.hU] 197) (gY w (.cells (qr D s ma mc ca cc ra rc) 141));have qB:=gY (w.alloc (.cells (qr D s ma mc ca cc ra rc) 141)) (.cells #[.slice ia t.ins.length ic,.slice oa t.outs.length oc,t.hU] 197);have a0:(w.alloc (.cells (qr D s ma mc ca cc ra rc) 141)).heap.size=w.heap.size+1:=U4 ..;rw [a0]at qB;obtain⟨aD,ae,aV,ar,au,U⟩:=J1 (bg.c' ax) (ht.c' ax) (be.c' ax) bp qB ax;have aH:Hi (lU D s t=if j2 D s t=true then (if lI (r6 s t) t.ins.length=0 then (if jv (pM s t) t.outs.length=true then (if 0<s.iK/\s.acc≠iD 7 [t.hU]then 21 else (if si s t=true then 0 else 13))else 1)else lI (r6 s t) t.ins.length)else 1):=rfl;clear a1 ax bp qB a0 bg ht be;go_in;go_wp2_with fail;generalize (w.alloc (.cells (qr D s ma mc ca cc ra rc) 141)).alloc (.cells #[.slice ia t.ins.length ic,.slice oa t.outs.length oc,t.hU] 197)=W at*
 refine UR (Bw S S' W D s ma ca ra mc cc rc aD.o t ia oa ic oc ae.o bI bJ) λw1 hb1=> ?_
 cases aQ:j2 D s t with
 |false=>
  have j:Hi (lU D s t=1):=Hd (by rw [aH.o,aQ];rfl);go_wp2;go_ret;exact⟨g2 j.o.symm,d' U.o hb1⟩
 |true=>
  obtain⟨k1,bh,bi,b4,b5,bj,bk⟩:=uL aQ;obtain⟨bv,bw,bx,bz,bA⟩:=zL k1 bh bi bj bk;have aI:Hi (lU D s t=if lI (r6 s t) t.ins.length=0 then (if jv (pM s t) t.outs.length=true then (if 0<s.iK/\s.acc≠iD 7 [t.hU]then 21 else (if si s t=true then 0 else 13))else 1)else lI (r6 s t) t.ins.length):=Hd (by rw [aH.o,aQ];rfl);clear aH k1 bh bi bj bk;obtain⟨aT,aU⟩:=a' (b' hb1 au.o);go_wp2_with fail;clear aT aU;go_loopw [21] (λak wr=> ∃k:Nat,k<=t.ins.length/\ak= UZ k/\Hi (lI (r6 s t) k=0)/\BW W wr) (λak _=>t.ins.length-(intOf ak).toNat)
  case atStart=>exact⟨0,iy _,rfl,rfl,hb1⟩
  case round=>
   obtain⟨k,bP,rfl,ag,u⟩:=hrel;by_cases hlt:k<t.ins.length
   ·obtain⟨b,off,pa,pc,rfl,y,aP,bf,c0,c1,c2,aM,bD,bE,bF,bG,bH⟩:=ow (h8.c' ae.o.ins u) k hlt
    have a8:k<s.marks.length:=(by have:=bv.o;omega);obtain⟨aY,bn,rfl,bL,bT,m1,a4⟩:=il (gZ.c' aD.o.marks u) k a8;have a6:=getD_at s.marks 0 k a8;have aO:=yL (TJ.1 bz.o t.ins[k] (z3 hlt));have z:Hi (r6 s t k=iM s.g5 t.ins[k] s.marks[k]):=by
     show _=_;unfold r6;rw [z2 hlt,a6]
    clear a6;generalize t.ins[k]=i at*;generalize s.marks[k]=mk at*;have Y:=jc wr (.cells (tx i pa pc) 265);have az:=gY wr (.cells (tx i pa pc) 265);obtain⟨bC,bB⟩:=ik (gZ.c' bf Y) aP;have aq:=d' u Y;have bb:=(Y.cell (p:=⟨aY,bn+k,none⟩) bL).trans a4;go_wp2_with fail;clear c0 c1 c2 aM bD bE bF bG bH bf a4;generalize wr.alloc (.cells (tx i pa pc) 265)=al at*;have ab:=g0 az;have ad:=g0 (b' aq ar.o);have bW:=hW bb;clear bb az
    have bR:(0:Int)<=(k:Int):=UN;have bS:(k:Int)<(s.marks.length:Int):=UN;have aN: ∀(d:Nat) (os:Array Obj),Calls prog 170 #[.pointer (some ⟨p,0,none⟩),.agg #[UZ D,s.g5,.slice (some ⟨aY,bn,none⟩) s.marks.length mc,.slice ca s.iJ.length cc,.slice ra s.li.length rc,s.iK,s.wd,s.jn,s.acc,s.bind],.agg (tx i pa pc),mk] (grow (redrawn al d) os) λe w'=>e= .returned (UZ (iM s.g5 i mk))/\Below (grow (redrawn al d) os).heap.size (grow (redrawn al d) os) w':=λd os=>
     DX S' _ p st (aV.o.c' (d' aq (lm al d os))) D s _ ca ra mc cc rc i bB.o pa pc (gZ.c' bC.o (lm al d os)) aO.1 aO.2.1 aO.2.2 mk
    refine m6 ?_
    repeat (first|go_big_quiet_step (exact ie (aN _ _))|quiet_step (exact ie (aN _ _)))
    refine lz ?_;intro wq bN;clear ab ad bW aN;have ai:=d' aq bN;by_cases aj:iM s.g5 i mk=0
    ·have aJ:Hi (lI (r6 s t) (k+1)=0):=wK ag.o (by rw [z.o,aj])
     rw [aj];go_wp2;go_roundw
     case rel=>exact⟨k+1,UN,by go_num,aJ,ai⟩
     case measure=>exact UY
    ·have j:Hi (lU D s t=iM s.g5 i mk):=by
      show _=_;have h1:=sY ag.o (by rw [z.o];exact aj) t.ins.length hlt;rw [z.o]at h1;rw [aI.o,h1,g3 aj]
     have bV:(iM s.g5 i mk==0)=false:=(by rw [je];exact aj);have cd:(iM s.g5 i mk != 0)=true:=(by rw [iB];exact aj);clear aj z;generalize iM s.g5 i mk=bY at*;go_wp2;go_ret;exact⟨g2 j.o.symm,d' U.o ai⟩
   ·obtain rfl:k=t.ins.length:=UN
    have aE:Hi (lU D s t=if jv (pM s t) t.outs.length=true then (if 0<s.iK/\s.acc≠iD 7 [t.hU]then 21 else (if si s t=true then 0 else 13))else 1):=Hd (by rw [aI.o,g7 ag.o]);clear aI ag;obtain⟨aT,aU⟩:=a' (b' u au.o);go_wp2_with fail;clear aT aU;go_loopw [42] (λak wr=> ∃k:Nat,k<=t.outs.length/\ak= UZ k/\Hi (jv (pM s t) k=true)/\BW W wr) (λak _=>t.outs.length-(intOf ak).toNat)
    case atStart=>exact⟨0,iy _,rfl,rfl,u⟩
    case round=>
     clear u;obtain⟨k,bP,rfl,ag,u⟩:=hrel;by_cases hlt:k<t.outs.length
     ·obtain⟨b,off,rfl,y,aP,c0,c1,c2,aM⟩:=qX (i6.c' ae.o.outs u) k hlt
      have a7:k<s.iJ.length:=(by have:=bw.o;omega);have a9:k<s.li.length:=(by have:=bx.o;omega);obtain⟨bc,bm,rfl,hbc,bT,m1,a3⟩:=il (gZ.c' aD.o.iJ u) k a7;obtain⟨aL,bo,rfl,a2,b6,n1,a5⟩:=il (gZ.c' aD.o.li u) k a9;have bQ:=TJ.1 bA.o t.outs[k] (z3 hlt);have z:Hi (pM s t k=((ip t.outs[k]==s.iJ[k])&&(t.outs[k].jr==s.li[k]))):=by
       show _=_;unfold pM;rw [z2 hlt,getD_at s.iJ 0 k a7,getD_at s.li 0 k a9]
      generalize t.outs[k]=n at*;generalize s.iJ[k]=cm at*;generalize s.li[k]=aA at*;have Y:=jc wr (.cells #[n.value,n.owner,n.jr,n.blind] 260);have az:=gY wr (.cells #[n.value,n.owner,n.jr,n.blind] 260);have aq:=d' u Y;have bt:=Hd az;have bq:=Hd ((Y.cell (p:=⟨bc,bm+k,none⟩) hbc).trans a3);have br:=Hd ((Y.cell (p:=⟨aL,bo+k,none⟩) a2).trans a5);have bK:bc<(wr.alloc (.cells #[n.value,n.owner,n.jr,n.blind] 260)).heap.size:=jg hbc Y.size;have bM:aL<(wr.alloc (.cells #[n.value,n.owner,n.jr,n.blind] 260)).heap.size:=jg a2 Y.size;clear az a3 a5;go_wp2_with fail;clear c0 c1 c2 aM;generalize wr.alloc (.cells #[n.value,n.owner,n.jr,n.blind] 260)=al at*
      refine UR (ti al p st (aV.o.c' aq) n aP) λw2 hb2=> ?_;rw [bQ];have ai:=d' aq hb2;obtain⟨b7,b8⟩:=a' (b' hb2 bt.o);obtain⟨b9,bV⟩:=a' (b' ai ar.o);have bZ:=(hb2.cell (p:=⟨bc,bm+k,none⟩) bK).trans bq.o;have b0:=(hb2.cell (p:=⟨aL,bo+k,none⟩) bM).trans br.o;have bR:(0:Int)<=(k:Int):=UN;have bS:(k:Int)<(s.iJ.length:Int):=UN;have b1:(k:Int)<(s.li.length:Int):=UN;by_cases ah:ip n=cm
      ·have av:(ip n==cm)=true:=by rw [iO];exact ah
       have aK:(ip n != cm)=false:=(by rw [jt];exact ah);by_cases ap:n.jr=aA
       ·have b2:(n.jr==aA)=true:=by rw [iO];exact ap
        have aw:(n.jr != aA)=false:=(by rw [jt];exact ap);have aJ:Hi (jv (pM s t) (k+1)=true):=lg ag.o (by rw [z.o,av,b2];rfl);clear ah ap z;generalize ip n=aZ at*;go_wp2_with fail;go_quiet (fail);go_wp2;go_roundw
        case rel=>exact⟨k+1,UN,by go_num,aJ,ny ai _⟩
        case measure=>exact UY
       ·have b2:(n.jr==aA)=false:=by rw [je];exact ap
        have aw:(n.jr != aA)=true:=(by rw [iB];exact ap);have j:Hi (lU D s t=1):=by
         show _=_;rw [aE.o,jp (k:=k) (by rw [z.o,b2,ll]) hlt];rfl
        clear ah ap z;generalize ip n=aZ at*;go_wp2_with fail;go_quiet (fail);go_wp2;go_ret;exact⟨g2 j.o.symm,d' U.o (ny ai _)⟩
      ·have av:(ip n==cm)=false:=by rw [je];exact ah
       have aK:(ip n != cm)=true:=(by rw [iB];exact ah);have j:Hi (lU D s t=1):=by
        show _=_;rw [aE.o,jp (k:=k) (by rw [z.o,av,kH]) hlt];rfl
       clear ah z;generalize ip n=aZ at*;go_wp2_with fail;go_quiet (fail);go_wp2;go_ret;exact⟨g2 j.o.symm,d' U.o (ny ai _)⟩
     ·obtain rfl:k=t.outs.length:=UN
      have ao:Hi (lU D s t=if 0<s.iK/\s.acc≠iD 7 [t.hU]then 21 else (if si s t=true then 0 else 13)):=Hd (by rw [aE.o,g7 ag.o]);clear aE ag;obtain⟨aX,aW,bX⟩:=kT (b' u au.o) (b' u ar.o) (ae.o.c' u);by_cases aG:0<s.iK
      ·have bO:decide (0<s.iK)=true:=iP aG
       have ab:=g0 aW.o;have ad:=g0 aX.o;go_wp2;refine m6 ?_
       repeat (first|go_big_quiet_step (exact ie (wR _ t.hU ae.o.hU))|quiet_step (exact ie (wR _ t.hU ae.o.hU)))
       refine lz ?_;intro aC aF;clear ab ad;by_cases af:s.acc=iD 7 [t.hU]
       ·have av:(s.acc==iD 7 [t.hU])=true:=by rw [iO];exact af
        have aK:(s.acc != iD 7 [t.hU])=false:=(by rw [jt];exact af);have V:Hi (lU D s t=if si s t=true then 0 else 13):=Hd (by rw [ao.o,g3 (λh=>h.2 af)]);clear af ao;generalize iD 7 [t.hU]=hh at*;have G:=d' u aF;have ab:=g0 (b' G ar.o);have ad:=g0 (b' G au.o);have K: ∀(d:Nat) (os:Array Obj),p9 S' (grow (redrawn aC d) os) t ia oa ic oc:=λd os=>ae.o.c' (d' G (lm aC d os));go_wp2;refine m6 ?_
        repeat (first|go_big_quiet_step (first|exact ie (rE S' _ t ia oa ic oc (K _ _))|exact ie (qo S' _ t ia oa ic oc (K _ _)))|quiet_step (first|exact ie (rE S' _ t ia oa ic oc (K _ _))|exact ie (qo S' _ t ia oa ic oc (K _ _))))
        refine lz ?_;intro bU ay;clear ab ad;clear K
        cases y:si s t with
        |true=>
         have b2:(IntKind.u64.wrap (jL t.ins t.ins.length+s.iK)==IntKind.u64.wrap (IntKind.u64.wrap (jd t.outs t.outs.length+s.wd)+s.jn))=true:=y;have aw:(IntKind.u64.wrap (jL t.ins t.ins.length+s.iK) != IntKind.u64.wrap (IntKind.u64.wrap (jd t.outs t.outs.length+s.wd)+s.jn))=false:=(by unfold bne;rw [b2];rfl);have j:Hi (lU D s t=0):=Hd (by rw [V.o,y];rfl);clear y V;generalize IntKind.u64.wrap (jL t.ins t.ins.length+s.iK)=l1 at*;generalize IntKind.u64.wrap (IntKind.u64.wrap (jd t.outs t.outs.length+s.wd)+s.jn)=l2 at*;go_wp2;go_ret;exact⟨g2 j.o.symm,d' U.o (d' G ay)⟩
        |false=>
         have b2:(IntKind.u64.wrap (jL t.ins t.ins.length+s.iK)==IntKind.u64.wrap (IntKind.u64.wrap (jd t.outs t.outs.length+s.wd)+s.jn))=false:=y;have aw:(IntKind.u64.wrap (jL t.ins t.ins.length+s.iK) != IntKind.u64.wrap (IntKind.u64.wrap (jd t.outs t.outs.length+s.wd)+s.jn))=true:=(by unfold bne;rw [b2];rfl);have j:Hi (lU D s t=13):=Hd (by rw [V.o,y];rfl);clear y V;generalize IntKind.u64.wrap (jL t.ins t.ins.length+s.iK)=l1 at*;generalize IntKind.u64.wrap (IntKind.u64.wrap (jd t.outs t.outs.length+s.wd)+s.jn)=l2 at*;go_wp2;go_ret;exact⟨g2 j.o.symm,d' U.o (d' G ay)⟩
       ·have av:(s.acc==iD 7 [t.hU])=false:=by rw [je];exact af
        have aK:(s.acc != iD 7 [t.hU])=true:=(by rw [iB];exact af);have j:Hi (lU D s t=21):=Hd (by rw [ao.o,g7 ⟨aG,af⟩]);clear af ao;generalize iD 7 [t.hU]=hh at*;go_wp2;go_ret;exact⟨g2 j.o.symm,d' U.o (d' u aF)⟩
      ·have bO:decide (0<s.iK)=false:=iH aG
       have V:Hi (lU D s t=if si s t=true then 0 else 13):=Hd (by rw [ao.o,g3 (λh=>aG h.1)]);have ab:=g0 aW.o;have ad:=g0 aX.o;go_wp2;refine m6 ?_
       repeat (first|go_big_quiet_step (fail)|quiet_step (fail))
       refine lz ?_;intro aC aF;clear ab ad;clear ao;have G:=d' u aF;have ab:=g0 (b' G ar.o);have ad:=g0 (b' G au.o);have K: ∀(d:Nat) (os:Array Obj),p9 S' (grow (redrawn aC d) os) t ia oa ic oc:=λd os=>ae.o.c' (d' G (lm aC d os));go_wp2;refine m6 ?_
       repeat (first|go_big_quiet_step (first|exact ie (rE S' _ t ia oa ic oc (K _ _))|exact ie (qo S' _ t ia oa ic oc (K _ _)))|quiet_step (first|exact ie (rE S' _ t ia oa ic oc (K _ _))|exact ie (qo S' _ t ia oa ic oc (K _ _))))
       refine lz ?_;intro bU ay;clear ab ad;clear K
       cases y:si s t with
       |true=>
        have b2:(IntKind.u64.wrap (jL t.ins t.ins.length+s.iK)==IntKind.u64.wrap (IntKind.u64.wrap (jd t.outs t.outs.length+s.wd)+s.jn))=true:=y;have aw:(IntKind.u64.wrap (jL t.ins t.ins.length+s.iK) != IntKind.u64.wrap (IntKind.u64.wrap (jd t.outs t.outs.length+s.wd)+s.jn))=false:=(by unfold bne;rw [b2];rfl);have j:Hi (lU D s t=0):=Hd (by rw [V.o,y];rfl);clear y V;generalize IntKind.u64.wrap (jL t.ins t.ins.length+s.iK)=l1 at*;generalize IntKind.u64.wrap (IntKind.u64.wrap (jd t.outs t.outs.length+s.wd)+s.jn)=l2 at*;go_wp2;go_ret;exact⟨g2 j.o.symm,d' U.o (d' G ay)⟩
       |false=>
        have b2:(IntKind.u64.wrap (jL t.ins t.ins.length+s.iK)==IntKind.u64.wrap (IntKind.u64.wrap (jd t.outs t.outs.length+s.wd)+s.jn))=false:=y;have aw:(IntKind.u64.wrap (jL t.ins t.ins.length+s.iK) != IntKind.u64.wrap (IntKind.u64.wrap (jd t.outs t.outs.length+s.wd)+s.jn))=true:=(by unfold bne;rw [b2];rfl);have j:Hi (lU D s t=13):=Hd (by rw [V.o,y];rfl);clear y V;generalize IntKind.u64.wrap (jL t.ins t.ins.length+s.iK)=l1 at*;generalize IntKind.u64.wrap (IntKind.u64.wrap (jd t.outs t.outs.length+s.wd)+s.jn)=l2 at*;go_wp2;go_ret;exact⟨g2 j.o.symm,d' U.o (d' G ay)⟩
end Go.Proofs.YtjdiofjjoefnhaaGreatDoor
