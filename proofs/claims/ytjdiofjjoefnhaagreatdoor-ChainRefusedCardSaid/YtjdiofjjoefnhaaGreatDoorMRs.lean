/- The reference's state of a chain: representation; Anchors, Check. -/
import Derived.Test.YtjdiofjjoefnhaaGreatDoorMTr
set_option maxRecDepth 100000
set_option maxHeartbeats 8000000
namespace Go.Proofs.YtjdiofjjoefnhaaGreatDoor
open Tryz Go.ChangeShapes Go.WideShapes Go.ChangeAt Go.RowKit Go.Sort
structure ug where
 la:Option Addr
 lc:Nat
 ma:Option Addr
 mc:Nat
 ba:Option Addr
 bc:Nat
 ra:Option Addr
 rc:Nat
abbrev pH (r:i4)(s:j8)(v:ug):Array Value:= #[UZ r.mode,UZ r.depth,UZ r.bl,UZ r.bu,UZ r.qu,U2 r.iz,UZ r.win,UZ r.fin,U2 r.work,UZ s.past.length,.slice v.la s.leaves.length v.lc,.slice v.ma s.marks.length v.mc,.slice v.ba s.book.length v.bc,U2 s.hidden,.slice v.ra s.roots.length v.rc]
abbrev ij (r:i4)(s:j8)(v:ug):Array Value:= #[UZ r.mode,UZ r.depth,UZ r.bl,UZ r.bu,UZ r.qu,U2 r.iz,UZ r.win,UZ r.fin,U2 r.work,UZ s.past.length,.slice v.la s.leaves.length v.lc,.slice v.ma s.marks.length v.mc,.slice v.ba s.book.length v.bc,U2 s.hidden,.slice v.ra s.roots.length v.rc]
structure nc (S:UO)(w:World)(s:j8)(v:ug):Prop where
 leaves:gZ.rel S w [.slice v.la s.leaves.length v.lc] s.leaves
 marks:gZ.rel S w [.slice v.ma s.marks.length v.mc] s.marks
 book:ih.rel S w [.slice v.ba s.book.length v.bc] s.book
 hidden:iZ s.hidden
 roots:gZ.rel S w [.slice v.ra s.roots.length v.rc] s.roots
section
variable {S S':UO} {w w':World} {s:j8} {v:ug}
theorem nc.keep (h:nc S w s v)(j:Kept S w w'):nc S w' s v:=
 ⟨gZ.keep h.leaves j,gZ.keep h.marks j,(ih).keep h.book j,h.hidden,gZ.keep h.roots j⟩
theorem nc.c' (h:nc S w s v)(j:BW w w'):nc S w' s v:=h.keep (Kept.of_below j)
theorem nc.mono (h:nc S w s v)(j: ∀k,k<w.heap.size->S k->S' k):nc S' w s v:=
 ⟨gZ.mono h.leaves j,gZ.mono h.marks j,(ih).mono h.book j,h.hidden,gZ.mono h.roots j⟩
end
theorem Ha {r:i4}{s:j8}{N:Nat}(ok:nm r s N):s.leaves.length<=4096:=by
 have h1:=ok.count;have h2:=ok.tree.c1;obtain⟨-, -,j⟩:=pL ⟨r.depth.toNat,by have:=ok.tree.d1;omega⟩;simp only at j;omega
def Eg (ra:UP)(rc n:Nat):Option Addr:=if n=0 then ra else H2 ra n rc
theorem Gs {S:UO}{w:World}{ra:UP}{rc:Nat}{win:Int}{l:List Int}(h:gZ.rel S w [.slice ra l.length rc] l):gZ.rel S w [.slice (Eg ra rc (l.length-win.toNat)) (k4 win l).length (rc-(l.length-win.toNat))] (k4 win l):=by
 have e:(k4 win l).length=l.length-(l.length-win.toNat):=by unfold k4;rw [Ts]
 rw [e];unfold k4 Eg;by_cases j:l.length-win.toNat=0
 ·rw [g7 j,j,Tg];exact h
 ·rw [g3 j];exact xk h _ UN
theorem uR (SP:UO)(w:World)(r:i4)(ae:1<=r.win)(af:r.win<=100)(s:j8)(v:ug)(_h:nc SP w s v)(ad:s.roots.length<=1000000):
 Calls prog 51 #[.agg (pH r s v)] w (Rt w (.slice (Eg v.ra v.rc (s.roots.length-r.win.toNat)) (k4 r.win s.roots).length (v.rc-(s.roots.length-r.win.toNat)))):=by
 have G:(k4 r.win s.roots).length=s.roots.length-(s.roots.length-r.win.toNat):=by unfold k4;rw [Ts]
 have K:=jc w (.cells (pH r s v) 58);have Y:=Hd (gY w (.cells (pH r s v) 58));have z:=Hd K;clear K;rw [G];clear G;obtain⟨n,y⟩:=iF (s.roots.length-r.win.toNat);have V:=λw=>AS w v.ra s.roots.length v.rc n UN;rw [y];go_in;go_upto_region 1 with(fail);generalize w.alloc (.cells (pH r s v) 58)=W at*;obtain⟨ah,ai⟩:=a' Y.o;by_cases j:(s.roots.length:Int)<=r.win
 ·obtain rfl:n=0:=UN
  have u:Hi (Eg v.ra v.rc 0=v.ra):=g7 rfl;have ab:decide ((s.roots.length:Int)<=r.win)=true:=iP j;clear y V j;go_wp2;go_ret;exact⟨by rw [u.o,Nat.sub_zero,Nat.sub_zero];rfl,z.o⟩
 ·have u:Hi (Eg v.ra v.rc n=H2 v.ra n v.rc):=g3 UN
  have ab:decide ((s.roots.length:Int)<=r.win)=false:=iH j;have ag:wrap64 ((s.roots.length:Int)-r.win)=(s.roots.length:Int)-r.win:=(by unfold wrap64;omega);have U:(n:Int)=(s.roots.length:Int)-r.win:=UN;rw [U]at V;clear y j U;go_wp2;go_ret;exact⟨by rw [u.o];rfl,z.o⟩
theorem Jx (l:List Int)(x:Int):hasB l x=decide (x∈l):=by
 rw [oK,Jw,jk]
theorem BF (w:World)(r:i4)(hr:oo r)(s:j8)(v:ug)(SP:UO)(h:nc SP w s v)(N:Nat)(ok:nm r s N)(bx:N<=100000)(a8:H4 r s)(bA:s.past.length<=100000)(S:UO)(t:jO)(ma oa pa:UP)(mc oc pc:Nat)(ht:ks S w t ma oa pa mc oc pc):
 Calls prog 139 #[.agg (pH r s v),.agg (jQ t ma mc oa oc pa pc)] w (Rt w (UZ (h7 r s t))):=by
 have aA:=hd (jc w (.cells (pH r s v) 58)) (.cells (jQ t ma mc oa oc pa pc) 87);have a6:=(ji w (.cells (pH r s v) 58) (.cells (jQ t ma mc oa oc pa pc) 87)).2;have a7:=(ji w (.cells (pH r s v) 58) (.cells (jQ t ma mc oa oc pa pc) 87)).1;obtain⟨ao,af,H,ag,ab,ax,ak,bb⟩:=Mb a6 a7 (h.c' aA) (ht.c' aA) aA hr ok a8;have bm:=Hd (xP ht.exp)
 have aJ:Hi (h7 r s t=if hF t=0 then
  if t.exp<s.past.length+1 then 14
  else if hasB (k4 r.win s.roots) t.g5=true then
   if (t.marks.any λx=>decide (x∈s.marks))=true then 12
   else if 0<t.iK/\jM s.book t.acc t.iK t.e'≠0 then jM s.book t.acc t.iK t.e'
   else if jh (s.hidden+t.iK)<jh (t.wd+t.jn)then 13
   else if (2:Int)^r.depth.toNat<s.leaves.length+t.outs.length then 16
   else 0
  else 11
 else hF t):=rfl
 have bi:s.roots.length<=1000000:=by have:=ok.roots;omega
 clear aA h ht ok hr a8 a6 a7;go_in;go_upto_region 1 with(fail);generalize (w.alloc (.cells (pH r s v) 58)).alloc (.cells (jQ t ma mc oa oc pa pc) 87)=W at*;obtain⟨G,V⟩:=a' af.o;go_wp2_with fail;refine UR (mw S W t ma oa pa mc oc pc ag.o) λw1 hb1=> ?_;clear G V;by_cases ae:hF t=0
 ·have aM:=Hd ae
  have ay:=Hd (aJ.o.trans (g7 ae));rw [ae];clear ae aJ;have bt:wrap64 ((s.past.length:Int)+1)=(s.past.length:Int)+1:=(by unfold wrap64;omega);have ad:=Hd hb1;clear hb1;obtain⟨G,V⟩:=a' (b' ad.o af.o);obtain⟨Y,aE⟩:=a' (b' ad.o ao.o);by_cases ai:t.exp<s.past.length+1
  ·have j:=Hd (ay.o.trans (g7 ai))
   have z:decide (t.exp<(s.past.length:Int)+1)=true:=iP ai;clear ai ay;go_wp2;go_ret;exact⟨g2 j.o.symm,d' ab.o ad.o⟩
  ·have aK:=Hd (ay.o.trans (g3 ai))
   have z:decide (t.exp<(s.past.length:Int)+1)=false:=iH ai;clear ay ai;go_upto_region 6 with(fail);clear G V Y aE;have aF:=Hd (H.o.c' ad.o);obtain⟨aZ,aP⟩:=iF (Value.slice (Eg v.ra v.rc (s.roots.length-r.win.toNat)) (k4 r.win s.roots).length (v.rc-(s.roots.length-r.win.toNat)));have aT: ∀(d:Nat) (os:Array Obj),Calls prog 51 #[.agg (pH r s v)] (grow (redrawn w1 d) os) λe w'=>e= .returned aZ/\Below (grow (redrawn w1 d) os).heap.size (grow (redrawn w1 d) os) w':=λd os=>by
    rw [<-aP];exact uR SP _ r ax.o.w0 ax.o.w1 s v (aF.o.c' (lm w1 d os)) bi
   obtain⟨a4,aX⟩:=iF (hasB (k4 r.win s.roots) t.g5);have aU: ∀(d:Nat) (os:Array Obj),Calls prog 203 #[aZ,t.g5] (grow (redrawn w1 d) os) λe w'=>e= .returned (.bool a4)/\Below (grow (redrawn w1 d) os).heap.size (grow (redrawn w1 d) os) w':=λd os=>by
    rw [<-aP,<-aX,Jx];exact CK SP _ _ _ _ (k4 r.win s.roots) rfl (Gs (aF.o.c' (lm w1 d os)).roots) (by have:=HV r.win s.roots;omega) t.g5
   have aI:=Hd aX;clear aP aX;have G:=g0 (b' ad.o af.o);have Y:=g0 (b' ad.o ao.o);go_wp2;refine m6 ?_
   repeat (first|go_big_quiet_step (first|exact ie (aT _ _)|exact ie (aU _ _))|quiet_step (first|exact ie (aT _ _)|exact ie (aU _ _)))
   refine lz ?_;intro bG hbq;clear G Y aT aU;have aG:=Hd (d' ad.o hbq);clear hbq aF ad
   cases a4 with
   |false=>
    have j:Hi (h7 r s t=11):=aK.o.trans (g3 (by rw [aI.o];simp));go_wp2;go_ret;exact⟨g2 j.o.symm,d' ab.o aG.o⟩
   |true=>
    have aL:=Hd (aK.o.trans (g7 aI.o));clear aK aI;have bo:=Hd (ke aM.o).1;have bn:=Hd (mN ag.o.marks);go_wp2;go_loopw [6] (λaY wr=> ∃k:Nat,k<=t.marks.length/\aY= UZ k/\Hi (BW W wr)/\Hi ((t.marks.take k).any (λx=>decide (x∈s.marks))=false)) (λaY _=>t.marks.length-(intOf aY).toNat)
    case atStart=>exact⟨0,iy _,rfl,aG,by show _=_;simp⟩
    case round=>
     clear aG;obtain⟨k,bg,rfl,u,aw⟩:=hrel;obtain⟨au,bj⟩: ∃x,x=wr:=⟨_,rfl⟩;subst bj;by_cases hlt:k<t.marks.length
     ·obtain⟨bq,off,bh, -, -, -,c0⟩:=il (ag.o.c' u.o).marks k hlt
      subst bh;have a3:Hi ((t.marks.take (k+1)).any (λx=>decide (x∈s.marks))=decide (t.marks[k]∈s.marks)):=Hd (by rw [z4 hlt,List.any_append,aw.o];simp);have be:Hi (t.marks[k]∈s.marks->(t.marks.any λx=>decide (x∈s.marks))=true):=λhh=>UA.2 ⟨t.marks[k],z3 hlt,by simpa using hh⟩;generalize t.marks[k]=x at*
      have bC:(0:Int)<=(k:Int):=UN;have bD:(k:Int)<(t.marks.length:Int):=UN;have bk:=hW c0;have a0:=Hd (H.o.c' u.o);have aV: ∀(d:Nat) (os:Array Obj),Calls prog 203 #[.slice v.ma s.marks.length v.mc,x] (grow (redrawn au d) os) λe w'=>e= .returned (.bool (decide (x∈s.marks)))/\Below (grow (redrawn au d) os).heap.size (grow (redrawn au d) os) w':=λd os=>
       CK SP _ _ _ _ s.marks rfl (a0.o.c' (lm au d os)).marks (by have:=ak.o.marks;omega) x
      obtain⟨G,V⟩:=a' (b' u.o af.o);clear c0 aw;go_upto_region 11 with(fail);clear G V;have G:=g0 (b' u.o af.o);have Y:=g0 (b' u.o ao.o);go_wp2;refine m6 ?_
      repeat (first|go_big_quiet_step (exact ie (aV _ _))|quiet_step (exact ie (aV _ _)))
      refine lz ?_;intro bH hbq;clear G Y bk aV;have a1:=Hd (d' u.o hbq);clear hbq a0 u;by_cases ar:x∈s.marks
      ·have j:Hi (h7 r s t=12):=aL.o.trans (g7 (be.o ar))
       have z:decide (x∈s.marks)=true:=iP ar;rw [z];clear z ar;go_wp2;go_ret;exact⟨g2 j.o.symm,d' ab.o a1.o⟩
      ·have z:decide (x∈s.marks)=false:=iH ar
       rw [z]at a3⊢;clear z ar;have bz:=(ke aM.o).1;have bB:wrap64 ((k:Int)+1)=(k:Int)+1:=(by unfold wrap64;omega);go_wp2;go_roundw
       case rel=>exact⟨k+1,UN,by go_num,a1,a3⟩
       case measure=>exact UY
     ·obtain rfl:k=t.marks.length:=UN
      have aQ:=aw.o;rw [Sw]at aQ;have al:=Hd (aL.o.trans (g3 (by rw [aQ];simp)));clear aL aQ aw;obtain⟨G,V⟩:=a' (b' u.o af.o);go_upto_if 43 with(fail);clear hlt bg;go_cut [7,8]from 43 (λbE bF wc=>Hi (BW W wc)/\Hi (h7 r s t=if jh (s.hidden+t.iK)<jh (t.wd+t.jn)then 13 else if (2:Int)^r.depth.toNat<s.leaves.length+t.outs.length then 16 else 0))
      case first=>
       obtain⟨Y,aE⟩:=a' (b' u.o ao.o);by_cases aW:0<t.iK
       ·have aH:Hi (h7 r s t=if jM s.book t.acc t.iK t.e'≠0 then jM s.book t.acc t.iK t.e' else if jh (s.hidden+t.iK)<jh (t.wd+t.jn)then 13 else if (2:Int)^r.depth.toNat<s.leaves.length+t.outs.length then 16 else 0):=by
         show _=_;rw [al.o];by_cases K:jM s.book t.acc t.iK t.e'≠0
         ·rw [g7 ⟨aW,K⟩,g7 K]
         ·rw [g3 (λh=>K h.2),g3 K]
        have a9:=Hd ak.o.book;clear al;go_wp2_with fail;refine(yB SP au v.ba v.bc s.book (H.o.c' u.o).book (by have:=a9.o;omega) ak.o.up bb.o.jD t.acc t.iK t.e' ag.o.acc ag.o.iK ag.o.e').mono ?_;rintro e bI⟨bp,br,rfl, -,hb5⟩;have a2:=Hd (d' u.o hb5);clear hb5 u G V Y aE;by_cases K:jM s.book t.acc t.iK t.e'=0
        ·have U:=Hd (aH.o.trans (g3 (λh=>h K)))
         rw [K];clear K aH;go_wp2;go_meet
         case rel=>exact⟨a2,U⟩
        ·have j:=Hd (aH.o.trans (g7 K))
         have z:(jM s.book t.acc t.iK t.e'==0)=false:=(by rw [je];exact K);have av:(jM s.book t.acc t.iK t.e' != 0)=true:=(by rw [iB];exact K);obtain⟨y,hy⟩:=iF (jM s.book t.acc t.iK t.e');have aN:=Hd hy;rw [hy]at z av⊢;clear hy K;go_wp2;go_ret;exact⟨g2 (by rw [j.o,aN.o]),d' ab.o a2.o⟩
       ·have U:Hi (h7 r s t=if jh (s.hidden+t.iK)<jh (t.wd+t.jn)then 13 else if (2:Int)^r.depth.toNat<s.leaves.length+t.outs.length then 16 else 0):=al.o.trans (g3 (λh=>aW h.1))
        have z:decide (0<t.iK)=false:=iH aW;clear al;go_wp2;go_meet
        case rel=>exact⟨u,U⟩
      case rest=>
       obtain⟨aj,U⟩:=hcut;clear G V al u;obtain⟨G,V⟩:=a' (b' aj.o af.o);obtain⟨Y,aE⟩:=a' (b' aj.o ao.o);obtain⟨d0,d1⟩:=(⟨ax.o.d0,ax.o.d1⟩:1<=r.depth/\r.depth<=12);obtain⟨D,a5⟩: ∃D:Nat,r.depth=D:=lv UN;simp only [a5,jJ]at U Y;obtain⟨ap,ah⟩: ∃ap:Int,(2:Int)^D=ap:=⟨_,rfl⟩;have aq:=ak.o.tree.c1;rw [a5,jJ,ah,ak.o.count]at aq;rw [ah]at U;obtain⟨bf,aO⟩:=x4 D (by clear aq ah;omega) ah;have bw:IntKind.u64.wrap (D:Int)=(D:Int):=(by clear aq ah bf aO;rw [jP];omega);have bv:=Cr s.leaves.length t.outs.length (zQ aq aO) (ke aM.o).2.1;clear ah d0 d1 aq aO;by_cases aC:IntKind.u64.wrap (s.hidden+t.iK)<IntKind.u64.wrap (t.wd+t.jn)
       ·have j:=Hd (U.o.trans (g7 aC))
        have z:decide (IntKind.u64.wrap (s.hidden+t.iK)<IntKind.u64.wrap (t.wd+t.jn))=true:=iP aC;clear U;go_wp2;go_ret;exact⟨g2 j.o.symm,d' ab.o aj.o⟩
       ·have az:=Hd (U.o.trans (g3 aC))
        have z:decide (IntKind.u64.wrap (s.hidden+t.iK)<IntKind.u64.wrap (t.wd+t.jn))=false:=iH aC;clear U;by_cases aD:ap<(s.leaves.length:Int)+t.outs.length
        ·have j:=Hd (az.o.trans (g7 aD))
         have av:decide (ap<(s.leaves.length:Int)+t.outs.length)=true:=iP aD;clear az;go_wp2_with fail
         all_goals first|(exfalso;omega)|(go_ret;exact⟨g2 j.o.symm,d' ab.o aj.o⟩)
        ·have j:=Hd (az.o.trans (g3 aD))
         have av:decide (ap<(s.leaves.length:Int)+t.outs.length)=false:=iH aD;clear az;go_wp2_with fail
         all_goals first|(exfalso;omega)|(go_ret;exact⟨g2 j.o.symm,d' ab.o aj.o⟩)
 ·have j:=Hd (aJ.o.trans (g3 ae))
  have z:(hF t==0)=false:=(by rw [je];exact ae);have av:(hF t != 0)=true:=(by rw [iB];exact ae);obtain⟨y,hy⟩:=iF (hF t);have aN:=Hd hy;rw [hy]at z av⊢;clear hy ae;go_wp2;go_ret;exact⟨g2 (by rw [j.o,aN.o]),d' ab.o hb1⟩
abbrev vs:Array Value:= #[I0,I0,I0,I0,I0,U0,I0,I0,U0,I0,S0,S0,S0,U0,S0]
theorem vu (w:World)(a b c:Obj):(((w.alloc a).alloc b).alloc c).heap[w.heap.size]? =some a/\(((w.alloc a).alloc b).alloc c).heap[w.heap.size+1]? =some b/\(((w.alloc a).alloc b).alloc c).heap[w.heap.size+2]? =some c:=by
 have j:(w.alloc a).heap.size=w.heap.size+1:=U4 ..;have u:((w.alloc a).alloc b).heap.size=w.heap.size+2:=by rw [U4,j]
 exact⟨iq (iq (gY _ a)),iq (j▸gY _ b),u▸gY _ c⟩
abbrev r5 (SP:UO)(n k:Nat):Prop:=(SP k/\k<n)\/n+3<=k
structure um (SP:UO)(r:i4)(X:Array Value)(w0:World)(s:j8)(v:ug)(w:World):Prop where
 cs:w.heap[w0.heap.size]? =some (.cells (ij r s v) 58 (0,0))
 ct:w.heap[w0.heap.size+1]? =some (.cells X 87 (0,0))
 cr:w.heap[w0.heap.size+2]? =some (.cells vs 58 (0,0))
 data:nc (r5 SP w0.heap.size) w s v
 mx:BW w0 w
 size:w0.heap.size+3<=w.heap.size
structure J8 (SP:UO)(r:i4)(X:Array Value)(w0:World)(R:Nat)(s:j8)(v:ug)(w:World):Prop where
 cs:w.heap[w0.heap.size]? =some (.cells (ij r s v) 58 (0,0))
 ct:w.heap[w0.heap.size+1]? =some (.cells X 87 (0,0))
 cr:w.heap[w0.heap.size+2]? =some (.cells vs 58 (0,0))
 leaves:Own ib R 24 (λk=>R<=k) w (.slice v.la s.leaves.length v.lc) s.leaves
 marks:gZ.rel (λk=>r5 SP w0.heap.size k/\k<R) w [.slice v.ma s.marks.length v.mc] s.marks
 book:ih.rel (λk=>r5 SP w0.heap.size k/\k<R) w [.slice v.ba s.book.length v.bc] s.book
 hidden:iZ s.hidden
 roots:gZ.rel (λk=>r5 SP w0.heap.size k/\k<R) w [.slice v.ra s.roots.length v.rc] s.roots
 mx:BW w0 w
 lo:w0.heap.size+3<=R
 hi:R<=w.heap.size
section
variable {SP:UO} {r:i4} {X:Array Value} {w0 w w':World} {R:Nat} {s s2:j8} {v v2:ug}
theorem um.c' (h:um SP r X w0 s v w)(j:BW w w'):um SP r X w0 s v w':=
 ⟨b' j h.cs,b' j h.ct,b' j h.cr,h.data.c' j,h.mx.trans (j.mono (by have:=h.size;omega)),iu h.size j.size⟩
theorem um.store (h:um SP r X w0 s v w)(i:Nat)(u:Value)(j:(ij r s v).setIfInBounds i u=ij r s2 v2)(y:nc (r5 SP w0.heap.size) w s2 v2):um SP r X w0 s2 v2 (w.setCell ⟨w0.heap.size,i,none⟩ u):=by
 refine⟨?_,hB h.ct (by show _≠w0.heap.size;omega),hB h.cr (by show _≠w0.heap.size;omega),y.keep ((h9 w _ _ _).mono λk _ z=>by show k≠_;omega),j4 h.mx (g9 _) _ (by have:=h.size;omega),by have:=h.size;simpa [World.setCell]using this⟩;rw [<-j];exact h6 h.cs
theorem J8.cs' (h:J8 SP r X w0 R s v w)(j:Below R w w'):w'.heap[w0.heap.size]? =some (.cells (ij r s v) 58 (0,0)):=(j.block _ (by have:=h.lo;omega)).trans h.cs
theorem J8.app (h:J8 SP r X w0 R s v w)(j:Below R w w'){a:UP}{c:Nat}{y:List Int}(G:Own ib R 24 (λk=>R<=k) w' (.slice a y.length c) y):
 J8 SP r X w0 R { s with leaves:=y } { v with la:=a,lc:=c } (w'.setCell ⟨w0.heap.size,10,none⟩ (.slice a y.length c)):=by
 have z:=h.lo
 have u:Kept (λk=>r5 SP w0.heap.size k/\k<R) w (w'.setCell ⟨w0.heap.size,10,none⟩ (.slice a y.length c)):=
  (Kept.mk j.os j.tape j.output j.size λk _ u=>j.block k u.2:Kept (λk=>r5 SP w0.heap.size k/\k<R) w w').trans (h9 w' _ _ _) λk _ u=>by have h1:r5 SP w0.heap.size k:=u.1;show k≠_;omega
 refine⟨?_,hB ((j.block _ UN).trans h.ct) (by show _≠w0.heap.size;omega),hB ((j.block _ UN).trans h.cr) (by show _≠w0.heap.size;omega),G.keep ((h9 w' _ _ _).mono λk _ u=>by have K:R<=k:=u;show k≠_;omega),gZ.keep h.marks u,(ih).keep h.book u,h.hidden,gZ.keep h.roots u,j4 (h.mx.trans (j.mono UN)) (g9 _) _ (by have:=j.size;have:=h.hi;omega),z,by have:=j.size;have:=h.hi;simp [World.setCell];omega⟩;exact h6 (h.cs' j)
theorem J8.to (h:J8 SP r X w0 R s v w):um SP r X w0 s v w:=
 ⟨h.cs,h.ct,h.cr,⟨gZ.mono h.leaves.slice λ_ _ j=> .inr (iu h.lo j),gZ.mono h.marks λ_ _ j=>j.1,(ih).mono h.book λ_ _ j=>j.1,h.hidden,gZ.mono h.roots λ_ _ j=>j.1⟩,h.mx,iu h.lo h.hi⟩
theorem um.J0 (h:um SP r X w0 s v w)(j:BW w w'){a:UP}{c:Nat}{y:List Int}(G:Own ib w.heap.size 24 (λk=>w.heap.size<=k) w' (.slice a y.length c) y):
 J8 SP r X w0 w.heap.size { s with leaves:=y } { v with la:=a,lc:=c } (w'.setCell ⟨w0.heap.size,10,none⟩ (.slice a y.length c)):=by
 have z:=h.size
 have u:Kept (λk=>r5 SP w0.heap.size k/\k<w.heap.size) w (w'.setCell ⟨w0.heap.size,10,none⟩ (.slice a y.length c)):=
  (Kept.of_below j:Kept (λk=>r5 SP w0.heap.size k/\k<w.heap.size) w w').trans (h9 w' _ _ _) λk _ u=>by have h1:r5 SP w0.heap.size k:=u.1;show k≠_;omega
 refine⟨?_,hB (b' j h.ct) (by show _≠w0.heap.size;omega),hB (b' j h.cr) (by show _≠w0.heap.size;omega),G.keep ((h9 w' _ _ _).mono λk _ u=>by have K:w.heap.size<=k:=u;show k≠_;omega),gZ.keep (gZ.bound h.data.marks) u,(ih).keep ((ih).bound h.data.book) u,h.data.hidden,gZ.keep (gZ.bound h.data.roots) u,j4 (h.mx.trans (j.mono UN)) (g9 _) _ (by have:=j.size;omega),z,by have:=j.size;simp [World.setCell];omega⟩;exact h6 (b' j h.cs)
end
def BR (r:i4)(s:j8)(t:jO):Int:=if h7 r s t=0 then jA s t else h7 r s t
def On (SP:UO)(r:i4)(s:j8)(t:jO)(w:World)(e:Ending)(w':World):Prop:= ∃(s2:j8) (v2:ug),e= .returned (.tuple #[.agg (ij r s2 v2),UZ (BR r s t)])/\(BR r s t=0->s2=kD s t/\nc (r5 SP w.heap.size) w' s2 v2)/\BW w w'
theorem HW {l u:List Int}(K: ∀x∈u,x∉l)(U:u.Nodup)(k:Nat)(z:k<u.length):u[k]∉mQ l (u.take k):=by
 rw [qY];rintro(h|h)
 ·obtain⟨j,G,y⟩:=TH h
  rw [Tq]at G;rw [Uk]at y;have h1:=TP.1 U j k UN z UN;exact h1 y
 ·exact K _ (z3 z) h
theorem BM (t:jO)(k:Nat)(j:k<t.outs.length):(jb t).take (k+1)=(jb t).take k++ [t.outs[k].g6]:=by
 unfold jb;rw [<-List.map_take,<-List.map_take,z4 j,T0];rfl
abbrev L6 (s:j8)(u mk:List Int)(j:List lK):j8:=⟨s.tree,u,mk,j,s.hidden,s.roots,s.past⟩
theorem BE (SP:UO)(w:World)(r:i4)(hr:oo r)(s:j8)(v:ug)(h:nc SP w s v)(N:Nat)(ok:nm r s N)(cC:N<=90000)(bO:H4 r s)(bL:s.marks.Pairwise (· < ·))(cl:s.past.length<=100000)(S:UO)(t:jO)(ma oa pa:UP)(mc oc pc:Nat)(ht:ks S w t ma oa pa mc oc pc):
 Calls prog 89 #[.agg (pH r s v),.agg (jQ t ma mc oa oc pa pc)] w (On SP r s t w):=by
 obtain⟨bF,b2,b3⟩:=vu w (.cells (pH r s v) 58) (.cells (jQ t ma mc oa oc pa pc) 87) (.cells mo 58);have bf:=hd (hd (jc w (.cells (pH r s v) 58)) (.cells (jQ t ma mc oa oc pa pc) 87)) (.cells mo 58);have av:(((w.alloc (.cells (pH r s v) 58)).alloc (.cells (jQ t ma mc oa oc pa pc) 87)).alloc (.cells mo 58)).heap.size=w.heap.size+3:=by rw [U4,U4,U4]
 have z:Hi (um SP r (jQ t ma mc oa oc pa pc) w s v (((w.alloc (.cells (pH r s v) 58)).alloc (.cells (jQ t ma mc oa oc pa pc) 87)).alloc (.cells mo 58))):=⟨bF,b2,b3,((h.mono (S':=λk=>SP k/\k<w.heap.size) λk G cn=>⟨cn,G⟩).c' bf).mono λk _ G=> .inl G,bf,Nat.le_of_eq av.symm⟩;obtain⟨ad,b8,aG,a9,b4,br⟩:=J1 (ht.bound.c' bf) hr ok bO bL (Ha ok);have a8:Hi (BR r s t=if h7 r s t=0 then jA s t else h7 r s t):=rfl;clear bF b2 b3 bf av h ht hr ok bO bL;go_in;go_upto_region 1 with(fail);generalize (((w.alloc (.cells (pH r s v) 58)).alloc (.cells (jQ t ma mc oa oc pa pc) 87)).alloc (.cells mo 58))=W at*
 go_wp2_with (first
  |(refine kf rfl _ _ rfl w.heap.size rfl _ _ _ _ z.o.cs underlying58 rfl UQ ?_)
  |(refine kf rfl _ _ rfl (w.heap.size+1) rfl _ _ _ _ z.o.ct underlying87 rfl UQ ?_))
 refine UR (BF W r b8.o s v _ z.o.data N aG.o UN a9.o cl _ t ma oa pa mc oc pc ad.o) λw1 hb1=> ?_;obtain⟨aM,aO⟩:=ik (z.o.c' hb1) (ad.o.c' hb1);clear hb1 z ad;by_cases ay:h7 r s t=0;rotate_left
 ·have aL:=Hd (a8.o.trans (g3 ay))
  have ax:(h7 r s t==0)=false:=(by rw [je];exact ay);have cy:(h7 r s t != 0)=true:=(by rw [iB];exact ay);have bv:=Hd ay;obtain⟨y,hy⟩:=iF (h7 r s t);rw [hy]at ax cy aL bv⊢;clear hy ay a8
  go_wp2_with (first
   |(refine kf rfl _ _ rfl w.heap.size rfl _ _ _ _ aM.o.cs underlying58 rfl UQ ?_)
   |(refine kI rfl _ _ _ rfl (w.heap.size+2) _ rfl rfl _ _ aM.o.cr UQ rfl UQ ?_))
  (try simp only [Exit.inBlock,Exit.then])
  refine iQ (v:= .tuple #[.agg (ij r s v),UZ y]) ?_ rfl ⟨s,v,by rw [aL.o],λa1=>absurd (aL.o▸a1) bv.o,below_setRow (g:=w.heap.size+2) aM.o.mx UN (ij r s v)⟩;exact ky results89 rfl (kr _ _ _ _ _ _ aM.o.cr) underlying58 rfl UQ
 ·obtain⟨aZ,bK,aC,ck⟩:=lQ ay
  obtain⟨aL,cz⟩:=ik (a8.o.trans (g7 ay)) aZ;have bt:=Hd (ke aZ).1;have bz:=Hd (ke aZ).2.1;have b5:=Hd (λk G=>HW bK (na (mv aZ).1).2 k G);have bW:=Hd aC;have bo:Hi (iZ t.iK/\iZ t.acc/\iZ t.wd):=⟨aO.o.iK,aO.o.acc,aO.o.wd⟩;have b0:=Hd (mN aO.o.marks);rw [ay];clear ay aZ bK aC ck a8;obtain⟨Y,ab,af,ag,a2,a4,ap,src⟩:=v;go_wp2;go_loopw [7] (λaK wr=> ∃(k:Nat) (L:List Int) (af:UP) (ag:Nat),k<=t.marks.length/\aK= UZ k/\Hi (L=mQ s.marks (t.marks.take k))/\Hi (um SP r (jQ t ma mc oa oc pa pc) w (L6 s s.leaves L s.book) ⟨Y,ab,af,ag,a2,a4,ap,src⟩ wr)/\Hi (ks (λk=>k<w.heap.size) wr t ma oa pa mc oc pc)) (λaK _=>t.marks.length-(intOf aK).toNat)
  case atStart=>exact⟨0,s.marks,af,ag,iy _,rfl,rfl,aM,aO⟩
  case round=>
   clear aM aO;obtain⟨k,L,af,ag,G,rfl,ak,z,ad⟩:=hrel;obtain⟨aw,co⟩: ∃x,x=wr:=⟨_,rfl⟩;subst co;by_cases hlt:k<t.marks.length
   ·as_aux_lemma=>
    obtain⟨bk,off,rfl, -, -, -,c0⟩:=il ad.o.marks k hlt;have b9:Hi (L.Pairwise (· < ·)):=(by show L.Pairwise _;rw [ak.o];exact oS _ _ b4.o);have b6:Hi (t.marks[k]∉L):=(by show _∉L;rw [ak.o];exact b5.o k hlt);have bb:Hi (od t.marks[k] L=mQ s.marks (t.marks.take (k+1))):=Hd (by rw [AL _ _ _ hlt,ak.o]);have bY:Hi (L.length<=95000):=by
     show _<=_;rw [ak.o];have h1:=uI (t.marks.take k) s.marks;rw [Tq]at h1;have h2:=aG.o.marks;have cB:=bt.o;omega
    have bj:=Hd (b0.o _ (z3 hlt));generalize t.marks[k]=x at*
    have cq:(0:Int)<=(k:Int):=UN;have cu:(k:Int)<(t.marks.length:Int):=UN;obtain⟨K,aj⟩:=a' z.o.cs;obtain⟨aq,ar⟩:=a' z.o.ct;simp only [ij]at K;clear ak;go_upto_region 7 with(fail)
    go_region_law (first
     |(go_simp
       go_at_call 140;refine(DB _ _ af ag L (gZ.c' z.o.data.marks (g' _ _).drew) (by have:=bY.o;omega) b9.o x bj.o b6.o).mono ?_;rintro e aT⟨ah,ai,rfl,bM,hb5⟩;have bn:=d' (Br aw).drew hb5;obtain⟨U,bB⟩:=ik (z.o.c' bn) (ad.o.c' bn);have bx:Hi (gZ.rel (λk=>aw.heap.size<=k) aT [.slice ah (od x L).length ai] (od x L)):=bM.slice;obtain⟨aF,ax⟩:=a' U.o.cs;simp only [ij]at aF;clear bM hb5 bn))
    all_goals
     have av:=z.o.size;have ao:=Hd (U.o.store (s2:=L6 s s.leaves (od x L) s.book) (v2:=⟨Y,ab,ah,ai,a2,a4,ap,src⟩) 11 (.slice ah (od x L).length ai) rfl ⟨U.o.data.leaves,gZ.mono bx.o λk _ G=> .inr (iu av G),U.o.data.book,U.o.data.hidden,U.o.data.roots⟩);have bi:Hi (ks (λk=>k<w.heap.size) (aT.setCell ⟨w.heap.size,11,none⟩ (.slice ah (od x L).length ai)) t (some ⟨bk,off,none⟩) oa pa mc oc pc):=bB.o.keep ((h9 aT _ _ _).mono λk _ G=>by have bJ:k<w.heap.size:=G;show k≠_;omega);generalize aT.setCell ⟨w.heap.size,11,none⟩ (.slice ah (od x L).length ai)=aE at*;obtain⟨bD,bm⟩:=iF (od x L);have b7:Hi (bD=mQ s.marks (t.marks.take (k+1))):=Hd (by rw [<-bm];exact bb.o);rw [bm]at ao;clear av U bB bx aF ax bm K aj aq ar;have a0:wrap64 ((k:Int)+1)=(k:Int)+1:=(by have:=bt.o;unfold wrap64;omega);go_wp2;go_roundw
     case rel=>exact⟨k+1,bD,ah,ai,UN,by go_num,b7,ao,bi⟩
     case measure=>first|(rw [a0];exact rW hlt (pb k))|exact rW hlt (pb k)|(simp [intOf];omega)
   ·as_aux_lemma=>
    obtain rfl:k=t.marks.length:=UN;have b1:Hi (L=mQ s.marks t.marks):=Hd (by rw [ak.o,Sw]);clear ak hlt G;obtain⟨K,aj⟩:=a' z.o.cs;obtain⟨aq,ar⟩:=a' z.o.ct;simp only [ij]at K;go_upto_region 8 with(fail);have bh:=Hd (jc aw (.cells #[] 24));have bw:=Hd ((Own.empty ib aw.heap.size 24 (gY aw (.cells #[] 24)) (g9 _)).mono (F':=λk=>aw.heap.size<=k) λj _ cj=>Nat.le_of_eq cj.symm);have bA:Hi (Src ib (r5 SP w.heap.size) (aw.alloc (.cells #[] 24)) (.slice Y s.leaves.length ab) s.leaves):=Src.of_slice (gZ.c' z.o.data.leaves bh.o);have a6:=λo=>(a' (iq (o':= .cells #[] 24) z.o.cs)).1 o;simp only [ij]at a6;go_wp2_with (at_builtin;refine rv (r:=ib) (B:=aw.heap.size) (w0:=aw) (v:= .slice (some ⟨aw.heap.size,0,none⟩) 0 0) (u:= .slice Y s.leaves.length ab) rfl _ _ rfl iX (Plain.int .u64) rfl rfl (TB _) bh.o (g9 _) bw.o bA.o (by have:=br.o;omega) UN ?_)
    intro aH aI aE aX al;have ao:=Hd (z.o.J0 al aX);have bC:Hi (ks (λk=>k<w.heap.size) (aE.setCell ⟨w.heap.size,10,none⟩ (.slice aH s.leaves.length aI)) t ma oa pa mc oc pc):=(ad.o.c' al).keep ((h9 aE _ _ _).mono λk _ G=>by have bJ:k<w.heap.size:=G;show k≠_;omega);obtain⟨aF,ax⟩:=a' (b' al z.o.cs);simp only [ij]at aF;clear aX al bw bA bh z ad K aj aq ar a6;go_upto_region 9 with(fail);generalize aE.setCell ⟨w.heap.size,10,none⟩ (.slice aH s.leaves.length aI)=cv at*;obtain⟨R,bG⟩:=iF (aw.heap.size);rw [bG]at ao;clear aF ax bG;go_wp2;go_loopw [8] (λaK wr=> ∃(k:Nat) (V:List Int) (Y:UP) (ab:Nat),k<=t.outs.length/\aK= UZ k/\Hi (V=s.leaves++(jb t).take k)/\Hi (J8 SP r (jQ t ma mc oa oc pa pc) w R (L6 s V L s.book) ⟨Y,ab,af,ag,a2,a4,ap,src⟩ wr)/\Hi (ks (λk=>k<w.heap.size) wr t ma oa pa mc oc pc)) (λaK _=>t.outs.length-(intOf aK).toNat)
    case atStart=>exact⟨0,s.leaves,aH,aI,iy _,rfl,by show _=_;simp,ao,bC⟩
    case round=>
     clear ao bC;obtain⟨k,V,Y,ab,G,rfl,ak,z,ad⟩:=hrel;obtain⟨bq,a0⟩: ∃x,x=wr:=⟨_,rfl⟩;subst a0;obtain⟨K,aj⟩:=a' z.o.cs;obtain⟨aq,ar⟩:=a' z.o.ct;simp only [ij]at K;by_cases hlt:k<t.outs.length
     ·as_aux_lemma=>
      obtain⟨bk,off,ca,cc,rfl, -, -,bI, -, -, -,c0, -⟩:=mp ad.o.outs k hlt;have bb:Hi (V++ [t.outs[k].g6]=s.leaves++(jb t).take (k+1)):=Hd (by rw [BM t k hlt,ak.o,Tt]);have bj:=Hd bI;have bZ:Hi (V.length<=4096+k):=by
       show _<=_;rw [ak.o,U3,Tq];have:=br.o;omega
      generalize t.outs[k].g6=x at*;obtain⟨Z,be⟩:=iF (V++ [x]);have ce:=Hd be;have cf:Hi (Z.length<=5000):=Hd (by rw [<-be,U3];have:=bZ.o;have:=bz.o;simp;omega);rw [be]at bb;have cq:(0:Int)<=(k:Int):=UN;have cu:(k:Int)<(t.outs.length:Int):=UN;clear bI be ak;go_upto_region 12 with(fail);have bT:=Hd ((g' R bq).drew);have a6:=λo=>(a' (iq (o':= .cells #[x] 24) z.o.cs)).1 o;simp only [ij]at a6
      go_region_law (first
       |(refine ts (r:=ib) (B:=R) (w0:=bq) (v:= .slice Y V.length ab) (y:=x) (cs:= [U2 x]) (S:=λ_=>True) rfl _ _ rfl iX (Plain.int .u64) rfl rfl ce.o bT.o z.o.hi (Own.c' z.o.leaves (g' _ _).drew) ⟨rfl,bj.o⟩ (by have:=cf.o;omega) UN ?_
         intro aH aI aE aX al;have ao:=Hd (z.o.app al aX);have bi:Hi (ks (λk=>k<w.heap.size) (aE.setCell ⟨w.heap.size,10,none⟩ (.slice aH Z.length aI)) t ma (some ⟨bk,off,none⟩) pa mc oc pc):=(ad.o.keep (Kept.mk al.os al.tape al.output al.size λk _ G=>al.block k (jg G (by have:=z.o.lo;omega)))).keep ((h9 aE _ _ _).mono λk _ G=>by have bJ:k<w.heap.size:=G;show k≠_;omega);obtain⟨aF,ax⟩:=a' (z.o.cs' al);simp only [ij]at aF;clear aX al))
      all_goals
       generalize aE.setCell ⟨w.heap.size,10,none⟩ (.slice aH Z.length aI)=cv at*;clear z ad K aj aq ar aF ax a6;have a0:wrap64 ((k:Int)+1)=(k:Int)+1:=(by have:=bz.o;unfold wrap64;omega);go_wp2;go_roundw
       case rel=>exact⟨k+1,Z,aH,aI,UN,by go_num,bb,ao,bi⟩
       case measure=>first|(rw [a0];exact rW hlt (pb k))|exact rW hlt (pb k)|(simp [intOf];omega)
     ·as_aux_lemma=>
      obtain rfl:k=t.outs.length:=UN;have cd:Hi (V=s.leaves++jb t):=by
       show _=_;rw [ak.o];congr 1;exact TK (by unfold jb;rw [TC];exact g9 _)
      have aN:=Hd z.o.to;clear ak hlt G z K aj;go_upto_region 13 with(fail);go_upto_if 58 with(fail);go_cut [9]from 56 (λbp wc=>bp= I0/\ ∃(a:UP) (c:Nat),Hi (um SP r (jQ t ma mc oa oc pa pc) w (L6 s V L (book1 s t)) ⟨Y,ab,af,ag,a,c,ap,src⟩ wc))
      case first=>
       obtain⟨K,aj⟩:=a' aN.o.cs;simp only [ij]at K;by_cases aJ:0<t.iK
       ·have au:Hi (book1 s t=lx s.book t.acc t.iK t.e'):=g7 aJ
        have bV:=Hd (bW.o aJ);have ax:decide (0<t.iK)=true:=iP aJ;go_wp2_with fail;refine(yB _ bq a2 a4 s.book aN.o.data.book (by have:=aG.o.book;omega) aG.o.up a9.o.jD t.acc t.iK t.e' ad.o.acc ad.o.iK ad.o.e').mono ?_;rw [bV.o,<-au.o];rintro e aT⟨ah,ai,rfl,aY,hb5⟩;have av:=aN.o.size;obtain⟨U,aW⟩:=ik (aN.o.c' hb5) ((ih).mono aY (S':=r5 SP w.heap.size) λk _ G=> .inr (iu av G));obtain⟨ae,aP⟩:=iF (book1 s t);rw [aP]at aW⊢;have bU:=Hd aP;clear aP aY hb5 av K aj aq ar;obtain⟨K,aj⟩:=a' U.o.cs;simp only [ij]at K;have ao:=Hd (U.o.store (s2:=L6 s V L ae) (v2:=⟨Y,ab,af,ag,ah,ai,ap,src⟩) 12 (.slice ah ae.length ai) rfl ⟨U.o.data.leaves,U.o.data.marks,aW.o,U.o.data.hidden,U.o.data.roots⟩);go_wp2;go_meet
        case rel=>
         rw [bU.o];exact⟨rfl,ah,ai,ao⟩
       ·have au:Hi (book1 s t=s.book):=g3 aJ
        have ax:decide (0<t.iK)=false:=iH aJ;go_wp2;go_meet
        case rel=>
         rw [au.o];exact⟨rfl,a2,a4,aN⟩
      obtain⟨rfl,bQ,bR,az⟩:=hcut;clear aN ad aq ar;obtain⟨cw,cp⟩: ∃x,x=wc:=⟨_,rfl⟩;subst cp;have aU:Hi (vd (book1 s t)/\oj (book1 s t)/\(book1 s t).length<=90001):=by
       have aJ:0<=t.iK:=(iE bo.o.1).1;have h1:=aG.o.book;show _/\_/\_;unfold book1;split
       ·have h2:=ub s.book t.acc t.iK t.e'
        exact⟨vH aG.o.up _ _ _,yS a9.o.jD _ aJ _,UN⟩
       ·exact⟨aG.o.up,a9.o.jD,UN⟩
      obtain⟨aq,ar⟩:=a' az.o.ct;go_upto_if 74 with(fail);go_cut [9]from 72 (λbp wc=>bp= UZ (jA s t)/\ ∃(ae:List lK) (a:UP) (c:Nat),Hi (jA s t=0->ae=(kD s t).book)/\Hi (um SP r (jQ t ma mc oa oc pa pc) w (L6 s V L ae) ⟨Y,ab,af,ag,a,c,ap,src⟩ wc))
      case first=>
       obtain⟨K,aj⟩:=a' az.o.cs;simp only [ij]at K;by_cases aQ:0<t.wd
       ·have a7:Hi (jA s t=kV (book1 s t) t.acc t.wd):=g7 aQ
        have au:Hi (jA s t=0->jH (book1 s t) t.acc t.wd=(kD s t).book):=λcg=>(by show _=(if _ then _ else _);rw [g7 ⟨aQ,cg⟩]);have ax:decide (0<t.wd)=true:=iP aQ;obtain⟨bE,bH⟩:=iF (book1 s t);rw [bH]at aU az a7 au K;clear bH;go_wp2_with fail;refine(wE _ cw bQ bR bE az.o.data.book (by have:=aU.o.2.2;omega) aU.o.1 aU.o.2.1 t.acc t.wd bo.o.2.1 bo.o.2.2).mono ?_;rw [<-a7.o];rintro e aT⟨ah,ai,rfl,aY,hb5⟩;have av:=az.o.size;obtain⟨U,aW⟩:=ik (az.o.c' hb5) ((ih).mono aY (S':=r5 SP w.heap.size) λk _ G=> .inr (iu av G));obtain⟨ae,aP⟩:=iF (jH bE t.acc t.wd);rw [aP]at aW au⊢;clear aP aY hb5 av K aj aq ar;obtain⟨K,aj⟩:=a' U.o.cs;simp only [ij]at K;have ao:=Hd (U.o.store (s2:=L6 s V L ae) (v2:=⟨Y,ab,af,ag,ah,ai,ap,src⟩) 12 (.slice ah ae.length ai) rfl ⟨U.o.data.leaves,U.o.data.marks,aW.o,U.o.data.hidden,U.o.data.roots⟩);go_wp2;go_meet
        case rel=>exact⟨rfl,ae,ah,ai,au,ao⟩
       ·have a7:Hi (jA s t=0):=g3 aQ
        have au:Hi (jA s t=0->book1 s t=(kD s t).book):=λ_=>(by show _=(if _ then _ else _);rw [g3 (λh=>aQ h.1)]);have ax:decide (0<t.wd)=false:=iH aQ;go_wp2;go_meet
        case rel=>exact⟨by rw [a7.o],book1 s t,bQ,bR,au,az⟩
      obtain⟨rfl,ae,a3,a5,au,aA⟩:=hcut;clear az aq ar aU;obtain⟨K,aj⟩:=a' aA.o.cs;obtain⟨aq,ar⟩:=a' aA.o.ct;simp only [ij]at K;go_upto_region 19 with(fail);obtain⟨aD,bg⟩:=iF (IntKind.u64.wrap (IntKind.u64.wrap (IntKind.u64.wrap (s.hidden+t.iK)-t.wd)-t.jn));have bX:=Hd bg;have bN:iZ aD:=by rw [<-bg];exact sA _
      obtain⟨bS,bP,aV⟩: ∃q,wc.setCell ⟨w.heap.size,13,none⟩ (U2 aD)=q/\Hi (um SP r (jQ t ma mc oa oc pa pc) w ⟨s.tree,V,L,ae,aD,s.roots,s.past⟩ ⟨Y,ab,af,ag,a3,a5,ap,src⟩ q):=
       ⟨_,rfl,aA.o.store 13 (U2 aD) rfl ⟨aA.o.data.leaves,aA.o.data.marks,aA.o.data.book,bN,aA.o.data.roots⟩⟩
      rw [bg,bP];clear bg bP bN K aj aq ar aA
      go_wp2_with (first
       |(refine kf rfl _ _ rfl w.heap.size rfl _ _ _ _ aV.o.cs underlying58 rfl UQ ?_)
       |(refine kI rfl _ _ _ rfl (w.heap.size+2) _ rfl rfl _ _ aV.o.cr UQ rfl UQ ?_))
      (try simp only [Exit.inBlock,Exit.then])
      refine iQ (v:= .tuple #[.agg (ij r ⟨(kD s t).tree,V,L,ae,aD,s.roots,s.past⟩ ⟨Y,ab,af,ag,a3,a5,ap,src⟩),UZ (jA s t)]) ?_ rfl ⟨⟨(kD s t).tree,V,L,ae,aD,s.roots,s.past⟩,⟨Y,ab,af,ag,a3,a5,ap,src⟩,by rw [aL.o],λa1=> ?_,below_setRow (g:=w.heap.size+2) aV.o.mx UN _⟩
      ·exact ky results89 rfl (kr _ _ _ _ _ _ aV.o.cr) underlying58 rfl UQ
      ·rw [aL.o]at a1
       refine⟨?_,?_⟩
       ·rw [au.o a1,cd.o,b1.o,<-bX.o]
        unfold kD;rw [g7 a1]
       ·have aC:=aV.o.data
        have G:=i9 bS (w.heap.size+2) (ij r ⟨s.tree,V,L,ae,aD,s.roots,s.past⟩ ⟨Y,ab,af,ag,a3,a5,ap,src⟩);have ch:nc (r5 SP w.heap.size) bS ⟨(kD s t).tree,V,L,ae,aD,s.roots,s.past⟩ ⟨Y,ab,af,ag,a3,a5,ap,src⟩:=⟨aC.leaves,aC.marks,aC.book,aC.hidden,aC.roots⟩;exact ch.keep (G.mono λk _ h=>by have cA:r5 SP w.heap.size k:=h;show k≠_;omega)
end Go.Proofs.YtjdiofjjoefnhaaGreatDoor
