/- The sponge at the big prime: absorb, Hash. -/
import Derived.Test.YtjdiofjjoefnhaaGreatDoorMRd
import Derived.Laws.BytesArg
import Derived.MapKept
set_option maxRecDepth 100000
set_option maxHeartbeats 4000000
namespace Go.Proofs.YtjdiofjjoefnhaaGreatDoor
open Tryz Go.ChangeShapes Go.WideShapes Go.ChangeAt Go.RowKit Go.Sort
def ol (w:World)(q:Nat)(s:T3)(wr:World):Prop:=
 BW w wr/\wr.heap[w.heap.size]? =some (.cells #[U0,U0,U0] 230 (0,0))/\wr.heap[w.heap.size+1]? =some (.cells #[U2 18446744069414584321] 305 (0,0))/\
  wr.heap[q]? =some (.cells #[s.1,s.2.1,s.2.2] 230 (0,0))/\w.heap.size+1<q
theorem ol.next {w w1 w2:World}{q:Nat}{s:T3}(h:ol w q s w1)(j:BW w1 w2):ol w q s w2:=
 ⟨d' h.1 j,b' j h.2.1,b' j h.2.2.1,b' j h.2.2.2.1,h.2.2.2.2⟩
theorem ol.store {w wr:World}{q:Nat}{s:T3}(h:ol w q s wr)(t:T3):ol w q t (((wr.setCell ⟨q,0,none⟩ (U2 t.1)).setCell ⟨q,1,none⟩ (U2 t.2.1)).setCell ⟨q,2,none⟩ (U2 t.2.2)):=by
 obtain⟨h1,h2,z,G,K⟩:=h;have j:w.heap.size≠q:=UN
 have u:w.heap.size+1≠q:=UN
 have y:w.heap.size<=q:=UN
 exact⟨((h1.setCell y _).setCell y _).setCell y _,hB (hB (hB h2 j) j) j,hB (hB (hB z u) u) u,h6 (h6 (h6 G)),K⟩
theorem ol.one {w wr:World}{q:Nat}{s t:T3}(h:ol w q s wr)(i:Nat)(v:Value)(ht:(#[s.1,s.2.1,s.2.2]:Array Value).setIfInBounds i v= #[U2 t.1,U2 t.2.1,U2 t.2.2]):ol w q t (wr.setCell ⟨q,i,none⟩ v):=by
 obtain⟨h1,h2,y,z,G⟩:=h;have j:w.heap.size≠q:=UN
 have u:w.heap.size+1≠q:=UN
 exact⟨h1.setCell (by show w.heap.size<=q;omega) _,hB h2 j,hB y u,ht▸h6 z,G⟩
theorem ol.start {w wq:World} {a b:Obj} {v0 v1 v2:Int} (u:a= .cells #[U0,U0,U0] 230) (y:b= .cells #[U2 18446744069414584321] 305)
 (h:Below ((w.alloc a).alloc b).heap.size ((w.alloc a).alloc b) wq):ol w wq.heap.size (v0,v1,v2) (wq.alloc (.cells #[v0,v1,v2] 230)):=by
 subst u y;have j:(w.alloc (.cells #[U0,U0,U0] 230)).heap.size=w.heap.size+1:=U4 ..;have q1:=iq (o':= .cells #[U2 18446744069414584321] 305) (gY w (.cells #[U0,U0,U0] 230));have q2:=gY (w.alloc (.cells #[U0,U0,U0] 230)) (.cells #[U2 18446744069414584321] 305);rw [j]at q2;have z:=h.size;rw [U4,j]at z;exact⟨hd (d' (hd (hd (g' _ _) _) _) h) _,iq (b' h q1),iq (b' h q2),gY _ _,UN⟩
abbrev nf (w w':World):Prop:=
 BW w w'/\w.heap.size+1<w'.heap.size/\(∀o,w'.cell? ⟨w.heap.size+1,o,none⟩=(#[U2 18446744069414584321]:Array Value)[o]?)/\
  w'.heap[w.heap.size]? =some (.cells #[U0,U0,U0] 230 (0,0))/\w'.heap[w.heap.size+1]? =some (.cells #[U2 18446744069414584321] 305 (0,0))
theorem nf.of {w w':World}(h1:BW w w')(h2:w'.heap[w.heap.size]? =some (.cells #[U0,U0,U0] 230 (0,0)))(j:w'.heap[w.heap.size+1]? =some (.cells #[U2 18446744069414584321] 305 (0,0))):nf w w':=
 ⟨h1,ii j,(a' j).1,h2,j⟩
theorem nf.start (w:World):nf w ((w.alloc (.cells #[U0,U0,U0] 230)).alloc (.cells #[U2 18446744069414584321] 305)):=by
 have j:(w.alloc (.cells #[U0,U0,U0] 230)).heap.size=w.heap.size+1:=U4 ..;have q1:=iq (o':= .cells #[U2 18446744069414584321] 305) (gY w (.cells #[U0,U0,U0] 230));have q2:=gY (w.alloc (.cells #[U0,U0,U0] 230)) (.cells #[U2 18446744069414584321] 305);rw [j]at q2;exact nf.of (hd (hd (g' _ _) _) _) q1 q2
theorem nf.drew {w w':World}(h:nf w w'):nf w w'.drew:=⟨h.1.drew,h.2.1,h.2.2.1,h.2.2.2.1,h.2.2.2.2⟩
theorem nf.next {w w1 w2:World}(h:nf w w1)(j:BW w1 w2):nf w w2:=nf.of (d' h.1 j) (b' j h.2.2.2.1) (b' j h.2.2.2.2)
theorem nf.alloc {w w1:World}(h:nf w w1)(o:Obj):nf w (w1.alloc o):=h.next (hd (g' _ _) o)
theorem nf.store {w w1:World}(h:nf w w1){q:Nat}(Y:w.heap.size+1<q)(x y z:Value):nf w (((w1.setCell ⟨q,0,none⟩ x).setCell ⟨q,1,none⟩ y).setCell ⟨q,2,none⟩ z):=by
 obtain⟨h1,h2,V,K,U⟩:=h;have j:w.heap.size≠q:=UN
 have u:w.heap.size+1≠q:=UN
 have G:w.heap.size<=q:=UN
 exact nf.of (((h1.setCell G _).setCell G _).setCell G _) (hB (hB (hB K j) j) j) (hB (hB (hB U u) u) u)
theorem Fx (label:Int)(aW:0<=label)(S:UO)(w:World)(a:UP)(cap:Nat)(l:List Int)(h:gZ.rel S w [.slice a l.length cap] l)(a6:l.length<=1000000):
 Calls prog 222 #[U2 18446744069414584321,label,.slice a l.length cap] w
  (Rt w (.agg #[U2 (kv label l).1,U2 (kv label l).2.1,U2 (kv label l).2.2])):=by
 have H:=Hd h;clear h;have aN:=qh label 65536;have l0:(0:Int)<=l.length:=UN
 have aX:IntKind.u64.wrap (l.length:Int)=l.length:=by rw [jP];omega
 have ag:=nf.start w;go_in;go_wp2_with fail;go_cut [8]from 10 (λa0 wc=> ∃q,a0= .pointer (some ⟨q,0,none⟩)/\ol w q (ly label l.length) wc)
 case first=>
  generalize (w.alloc (.cells #[U0,U0,U0] 230)).alloc (.cells #[U2 18446744069414584321] 305)=W at ag⊢;have aC:=ag.2.1;have aF:=Hd ag;clear ag;go_region_held3 (λw'=>BW w w'/\w.heap.size+1<w'.heap.size/\(∀o,w'.cell? ⟨w.heap.size+1,o,none⟩=(#[U2 18446744069414584321]:Array Value)[o]?)/\
  w'.heap[w.heap.size]? =some (.cells #[U0,U0,U0] 230 (0,0))/\w'.heap[w.heap.size+1]? =some (.cells #[U2 18446744069414584321] 305 (0,0)))
   (first
     |with_reducible exact nf.drew aF.o
     |with_reducible exact ap.o
     |with_reducible exact K.o
     |with_reducible exact nf.alloc K.o _
     |with_reducible exact nf.alloc ap.o _
     |with_reducible exact nf.drew (nf.alloc aF.o _)
     |with_reducible exact nf.store K.o aC _ _ _
     |with_reducible exact nf.store K.o aA _ _ _)
   (first
     |(go_at_call 297;refine UR (Lf label 65536 aW UN _) λw2 aH=> ?_
       have ap:=Hd (nf.next (‹BW w _/\_<_/\_› :nf w _) aH);have aA:=ap.o.2.1)
     |(go_at_call_of 296 (Value.int IntKind.u64 (l.length:Int));refine UR (mq (kM label 65536) l.length aN.1 l0 _) λaj aw=> ?_
       have K:=Hd (nf.next (‹BW w _/\_<_/\_› :nf w _) aw)
       first
        |(have U:aj.heap[W.heap.size]? =_:=b' aw (b' aH (gY W (.cells #[U0,U0,U0] 230)));obtain⟨k0,k1⟩:=a' U;have HQ:=Hd U;clear U)
        |(have U:aj.heap[w2.heap.size]? =_:=b' aw (gY w2 _);obtain⟨k0,k1⟩:=a' U;have HQ:=Hd U;clear U)
        |have aY:=K.o.2.1))
  ·go_wp2
   go_meet
   case rel=>exact⟨aj.heap.size,rfl,K.o.1.new _,iq K.o.2.2.2.1,iq K.o.2.2.2.2,gY _ _,aY⟩
  ·have hh:=nf.store K.o aA U0 U0 (U2 (ig (kM label 65536) l.length))
   have G:=Hd hh;clear hh;go_wp2;go_meet
   case rel=>exact⟨w2.heap.size,rfl,G.o.1,G.o.2.2.2.1,G.o.2.2.2.2,h6 (h6 (h6 HQ.o)),aA⟩
  ·have hh:=nf.store K.o aC U0 U0 (U2 (ig (kM label 65536) l.length))
   have G:=Hd hh;clear hh;go_wp2;go_meet
   case rel=>exact⟨W.heap.size,rfl,G.o.1,G.o.2.2.2.1,G.o.2.2.2.2,h6 (h6 (h6 HQ.o)),aC⟩
 case rest=>
  obtain⟨q,rfl,az⟩:=hcut;clear ag aN l0 aX;obtain⟨aG,HQ⟩:=ik (tj label l.length) az;obtain⟨ab,a2⟩:=a' az.2.2.2.1;clear az;by_cases ay:l.length=0
  ·have aT:Hi (kv label l=kh (ly label l.length)):=by show _=_;unfold kv;rw [g7 ay,ay]
   generalize ly label l.length=s at*;go_wp2_with fail;refine UR (sU s aG.o _) λaj hb3=> ?_;have av:=HQ.o.next hb3;have al:=Hd av.1;obtain⟨u,a3⟩:=a' av.2.1;clear av;generalize kh s=t at*;obtain⟨aD,r1,r2⟩:=lV (x:= U2 t.1) (y:= U2 t.2.1) (z:= U2 t.2.2) (u 0) (u 1) (u 2);go_wp2_with fail;refine iQ (v:= .agg #[t.1,t.2.1,t.2.2]) (by simp [results,results222,go_sem,aD,r1,r2]) rfl ⟨by rw [aT.o],?_⟩;exact((al.o.setCell (g9 _) _).setCell (g9 _) _).setCell (g9 _) _
  ·have aU:Hi (kv label l=jN (ly label l.length) l):=by show _=_;unfold kv;rw [g3 ay]
   generalize ly label l.length=s0 at*;clear ab a2;have a7:((l.length:Int)==0)=false:=(by rw [je];omega);go_wp2;go_loopw [9] (λaE wr=> ∃(i:Nat) (s:T3),i<=l.length+1/\aE= UZ i/\jT s/\ol w q s wr/\Hi (jN s (l.drop i)=jN s0 l)) (λaE _=>l.length+2-(intOf aE).toNat)
   case atStart=>exact⟨0,s0,UN,rfl,aG.o,HQ.o,rfl⟩
   case round=>
    obtain⟨i,s,hi,rfl,V,j,ax⟩:=hrel;by_cases hlt:i<l.length
    ·obtain⟨b,off,rfl,aI,ah,a4,aK⟩:=il H.o i hlt
     have ai:0<=s.1:=(by unfold jT at V;omega);have sm:0<=s.2.1:=(by unfold jT at V;omega);have a9:(0:Int)<=(i:Int):=UN;have bb:(i:Int)<(l.length:Int):=UN;have aO:=jY s.1 l[i];by_cases hlt2:i+1<l.length
     ·have aq:=Hd (tb s l i hlt2)
      obtain⟨b2,bg,aJ,aV,f0,a5,aL⟩:=il H.o (i+1) hlt2;simp at aJ;obtain⟨rfl,rfl⟩:=aJ;have aP:=Hd aL;clear aL;have aZ:(i:Int)+1<(l.length:Int):=UN;have be:(0:Int)<=(i:Int)+1:=UN;have bf:((i:Int)+1).toNat=i+1:=UN;have a8:IntKind.i64.wrap ((i:Int)+1)=(i:Int)+1:=(by rw [rX];omega);have sb:=jY s.2.1 l[i+1];generalize l[i]=m at*;generalize l[i+1]=m2 at*
      have ao:Hi (jN (kh (ig s.1 m,ig s.2.1 m2,s.2.2)) (l.drop (i+2))=jN s0 l):=Hd (by rw [<-aq.o,ax.o]);have ar:Hi (jT (ig s.1 m,ig s.2.1 m2,s.2.2)):=(by unfold jT at V;exact⟨aO,sb,V.2.2⟩);have ak:=Hd j;have af:=(j.1.cell (p:=⟨b,off+i,none⟩) aI).trans aK;have ab:=g0 j.2.2.1;have u:=g0 j.2.2.2.1;have ad:=hW af;clear j af;go_wp2_with fail;refine hI 9 UQ UQ ?_;simp only [Tr,U6,Ty,Tg]
      repeat (first|go_big_quiet_step (exact ie (mq s.1 m ai ah _))|quiet_step (exact ie (mq s.1 m ai ah _)))
      refine lz ?_;intro wq hbq;clear ab u ad;have p1:=ak.o.next hbq;obtain⟨c0,c1⟩:=a' p1.2.2.2.1;have ae:=Hd (ol.one (t:=(ig s.1 m,s.2.1,s.2.2)) p1 0 (U2 (ig s.1 m)) rfl);clear p1;go_wp2_with fail;generalize wq.setCell ⟨q,0,none⟩ (U2 (ig s.1 m))=bi at ae⊢;clear c0 c1;have aM:=(ae.o.1.cell (p:=⟨b,off+(i+1),none⟩) aV).trans aP.o;have ab:=g0 ae.o.2.2.1;have u:=g0 ae.o.2.2.2.1;have ad:=hW aM;clear aM;refine hI 10 UQ UQ ?_;simp only [Tr,U6,Ty,Tg]
      repeat (first|go_big_quiet_step (exact ie (mq s.2.1 m2 sm f0 _))|quiet_step (exact ie (mq s.2.1 m2 sm f0 _)))
      refine lz ?_;intro bh Ie;clear ab u ad;have p1:=ae.o.next Ie;obtain⟨c0,c1⟩:=a' p1.2.2.2.1;have au:=Hd (ol.one (t:=(ig s.1 m,ig s.2.1 m2,s.2.2)) p1 1 (U2 (ig s.2.1 m2)) rfl);clear p1;go_wp2_with fail;refine UR (sU (ig s.1 m,ig s.2.1 m2,s.2.2) ar.o _) λa1 hb5=> ?_;have Y:=au.o.next hb5;clear c0 c1;obtain⟨c0,c1⟩:=a' Y.2.2.2.1;have G:=Hd (ol.store Y (kh (ig s.1 m,ig s.2.1 m2,s.2.2)));clear Y;go_wp2;go_roundw
      case rel=>exact⟨i+2,kh (ig s.1 m,ig s.2.1 m2,s.2.2),UN,by go_num,nI _,G.o,ao⟩
      case measure=>exact UY
     ·have aq:=Hd (td s l i hlt UN)
      generalize l[i]=m at*
      have aZ: ¬((i:Int)+1<(l.length:Int)):=UN;have ao:Hi (jN (kh (ig s.1 m,s.2.1,s.2.2)) (l.drop (i+2))=jN s0 l):=by
       show _=_;rw [<-ax.o,aq.o,TM UN];rfl
      have ar:Hi (jT (ig s.1 m,s.2.1,s.2.2)):=(by unfold jT at V;exact⟨aO,V.2.1,V.2.2⟩);have ak:=Hd j;have af:=(j.1.cell (p:=⟨b,off+i,none⟩) aI).trans aK;have ab:=g0 j.2.2.1;have u:=g0 j.2.2.2.1;have ad:=hW af;clear j af;go_wp2_with fail;refine hI 9 UQ UQ ?_;simp only [Tr,U6,Ty,Tg]
      repeat (first|go_big_quiet_step (exact ie (mq s.1 m ai ah _))|quiet_step (exact ie (mq s.1 m ai ah _)))
      refine lz ?_;intro wq hbq;clear ab u ad;have p1:=ak.o.next hbq;obtain⟨c0,c1⟩:=a' p1.2.2.2.1;have au:=Hd (ol.one (t:=(ig s.1 m,s.2.1,s.2.2)) p1 0 (U2 (ig s.1 m)) rfl);clear p1;go_wp2_with fail;refine UR (sU (ig s.1 m,s.2.1,s.2.2) ar.o _) λa1 hb5=> ?_;have Y:=au.o.next hb5;clear c0 c1;obtain⟨c0,c1⟩:=a' Y.2.2.2.1;have G:=Hd (ol.store Y (kh (ig s.1 m,s.2.1,s.2.2)));clear Y;go_wp2;go_roundw
      case rel=>exact⟨i+2,kh (ig s.1 m,s.2.1,s.2.2),UN,by go_num,nI _,G.o,ao⟩
      case measure=>exact UY
    ·have aQ:Hi (kv label l=s):=by
      show _=_;rw [aU.o,<-ax.o,TM UN];rfl
     have al:=Hd j.1;obtain⟨u,a3⟩:=a' j.2.1;obtain⟨ad,bj⟩:=a' j.2.2.2.1;clear j;obtain⟨aD,r1,r2⟩:=lV (x:= U2 s.1) (y:= U2 s.2.1) (z:= U2 s.2.2) (u 0) (u 1) (u 2);go_wp2_with fail;refine iQ (v:= .agg #[s.1,s.2.1,s.2.2]) (by simp [results,results222,go_sem,aD,r1,r2]) rfl ⟨by rw [aQ.o],?_⟩;exact((al.o.setCell (g9 _) _).setCell (g9 _) _).setCell (g9 _) _
theorem Eo (x y z:Int)(w:World):(Instr.index 230 (.agg #[x,y,z]) I0).run prog w= .ok (U2 x) w:=by
 have j:(prog.info? 24).map (·.size)=some 1:=UQ
 obtain⟨i,hi,u⟩:=vX.1 j;simp [Instr.index,asIntOf,run_underlying underlying230,sizeOf,typeInfo,hi,u,part,go_sem]
theorem oQ (label:Int)(u:0<=label)(S:UO)(w:World)(a:UP)(cap:Nat)(l:List Int)(h:gZ.rel S w [.slice a l.length cap] l)(y:l.length<=1000000):
 Calls prog 153 #[U2 18446744069414584321,label,.slice a l.length cap] w (Rt w (U2 (iD label l))):=by
 have j:Hi (iD label l=(kv label l).1):=rfl;go_in;go_wp2_with fail;refine UR (pA _) λw1 hb1=> ?_;go_wp2_with fail;refine UR (Fx label u S w1 a cap l (gZ.c' h hb1) y) λw2 hb2=> ?_;generalize kv label l=t at*;have z:=Eo t.1 t.2.1 t.2.2;go_wp2;go_ret;exact⟨g2 j.o.symm,d' hb1 hb2⟩
def jv (p:Nat->Bool):Nat->Bool
 |0=>true
 |k+1=>jv p k&&p k
theorem jp {p:Nat->Bool}{k:Nat}(j:p k=false): ∀ {n:Nat},k<n->jv p n=false
 |0,h=>absurd h (pf _)
 |n+1,h=>by
  unfold jv;rcases kZ k n with h1|h1
  ·rw [jp j h1];rfl
  ·obtain rfl:k=n:=UN
   rw [j,ll]
theorem lg {p:Nat->Bool}{k:Nat}(h:jv p k=true)(j:p k=true):jv p (k+1)=true:=by
 unfold jv;rw [h,j];rfl
def jC (n:Int):Bool:=decide (n<18446744069414584321)
def h' (l:List Int):Bool:=jv (λk=>jC (l.getD k 0)) l.length
theorem getD_at {α:Type}(l:List α)(d:α)(k:Nat)(h:k<l.length):l.getD k d=l[k]:=by simp [h]
theorem qW (w:World)(t:TypeId)(l:List Int)(cap:Nat)(K: ∀x∈l,iZ x)(G:l.length<=cap)(U:cap<=maxLen):gZ.rel (λ_=>True) (w.alloc (.cells (l.map (Value.int .u64)).toArray t)) [.slice (some ⟨w.heap.size,0,none⟩) l.length cap] l:=by
 refine⟨_,_,_,rfl,rfl,G,U,(λh=>by cases h),λi x y=>⟨w.heap.size,0,[x],rfl,trivial,⟨rfl,K x (Uc y)⟩,λj c u=> ?_,US⟩⟩;have z:=(a' (gY w (.cells (l.map (Value.int .u64)).toArray t))).1;rw [z]
 match j,u with
 |0,u=>
  simp at u;subst u;simp [j9,y]
theorem nb (S:UO)(w:World)(a:UP)(cap:Nat)(l:List Int)(h:gZ.rel S w [.slice a l.length cap] l):
 Calls prog 257 #[.slice a l.length cap] w (Rt w (.bool (h' l))):=by
 have K:=(g4.lens h).2;unfold maxLen at K;have H:=Hd h;clear h;go_in;go_wp2_with fail;go_loop [7] (λi=> ∃k:Nat,k<=l.length/\i= UZ k/\Hi (jv (λk=>jC (l.getD k 0)) k=true)) (λi=>l.length-(intOf i).toNat)
 case atStart=>exact⟨0,iy _,rfl,rfl⟩
 case round=>
  obtain⟨k,Y,rfl,u⟩:=hrel;by_cases hlt:k<l.length
  ·obtain⟨b,off,rfl,U,ab,n1,V⟩:=il H.o k hlt
   have y:=Hd (getD_at l 0 k hlt);generalize l[k]=n at*
   by_cases z:n<18446744069414584321
   ·have G:Hi (jv (λk=>jC (l.getD k 0)) (k+1)=true):=lg u.o (by rw [y.o];exact iP z)
    go_wp2_with fail;go_round
    case rel=>exact⟨k+1,UN,by go_num,G⟩
    case measure=>exact UY
   ·have j:Hi (h' l=false):=jp (k:=k) (by rw [y.o];exact iH z) hlt
    go_wp2;go_ret;exact⟨g8 j.o.symm,g' _ _⟩
  ·obtain rfl:k=l.length:=UN
   have j:Hi (h' l=true):=u;go_wp2;go_ret;exact⟨g8 j.o.symm,g' _ _⟩
theorem zy (S:UO)(w:World)(a:UP)(cap:Nat)(l:List Int)(h:gZ.rel S w [.slice a l.length cap] l):
 Calls prog 351 #[.slice a l.length cap] w (Rt w (.bool (h' l))):=by
 have K:=(g4.lens h).2;unfold maxLen at K;have H:=Hd h;clear h;go_in;go_wp2_with fail;go_loop [7] (λi=> ∃k:Nat,k<=l.length/\i= UZ k/\Hi (jv (λk=>jC (l.getD k 0)) k=true)) (λi=>l.length-(intOf i).toNat)
 case atStart=>exact⟨0,iy _,rfl,rfl⟩
 case round=>
  obtain⟨k,Y,rfl,u⟩:=hrel;by_cases hlt:k<l.length
  ·obtain⟨b,off,rfl,U,ab,n1,V⟩:=il H.o k hlt
   have y:=Hd (getD_at l 0 k hlt);generalize l[k]=n at*
   by_cases z:n<18446744069414584321
   ·have G:Hi (jv (λk=>jC (l.getD k 0)) (k+1)=true):=lg u.o (by rw [y.o];exact iP z)
    go_wp2_with fail;go_round
    case rel=>exact⟨k+1,UN,by go_num,G⟩
    case measure=>exact UY
   ·have j:Hi (h' l=false):=jp (k:=k) (by rw [y.o];exact iH z) hlt
    go_wp2;go_ret;exact⟨g8 j.o.symm,g' _ _⟩
  ·obtain rfl:k=l.length:=UN
   have j:Hi (h' l=true):=u;go_wp2;go_ret;exact⟨g8 j.o.symm,g' _ _⟩
def ja (n:jZ):Bool:=decide (n.value<=4294967295/\n.owner<18446744069414584321/\n.jr<18446744069414584321/\n.blind<18446744069414584321)
theorem qI (w:World)(n:jZ):Calls prog 263 #[.agg #[n.value,n.owner,n.jr,n.blind]] w (Rt w (.bool (ja n))):=by
 go_in;go_wp2_with fail
 all_goals go_ret
 all_goals refine⟨g8 ?_,(g' _ _).alloc (g9 _) _⟩
 all_goals unfold ja
 all_goals first
  |exact(iP UN).symm
  |exact(iH UN).symm
  |exact sr.2 UN
def rk (x y:Int):Bool:=decide (x<18446744069414584321/\y<18446744069414584321/\(x≠0\/y≠0))
theorem zb (w:World)(x y:Int):Calls prog 156 #[.agg #[x,y]] w (Rt w (.bool (rk x y))):=by
 go_in;go_wp2_with fail
 all_goals go_ret
 all_goals refine⟨g8 ?_,(g' _ _).alloc (g9 _) _⟩
 all_goals unfold rk
 all_goals first
  |exact(iP UN).symm
  |exact(iH UN).symm
  |exact sr.2 UN
  |(rw [oK];simp;omega)
def kK (t:jO):Bool:=
 decide ((t.iK<=4294967295/\t.wd<=4294967295/\t.jn<=4294967295)/\(t.acc<18446744069414584321/\t.e'<18446744069414584321)/\(0<t.iK->t.wd=0)/\(¬0<t.iK->(t.marks.length≠0/\t.e'=0)/\(0<t.wd\/t.acc=0)))
theorem D0 (S:UO)(w:World)(t:jO)(ma oa pa:UP)(mc oc pc:Nat)(h:ks S w t ma oa pa mc oc pc):
 Calls prog 111 #[.agg #[t.g5,.slice ma t.marks.length mc,.slice oa t.outs.length oc,t.iK,t.wd,t.jn,t.acc,t.e',UZ t.exp,.slice pa t.proof.length pc]] w (Rt w (.bool (kK t))):=by
 have d1:=iE h.iK;have j:=iE h.wd;have u:=iE h.acc;have y:=iE h.e';clear h;unfold kK;generalize t.marks.length=z;go_in;go_wp2_with fail
 all_goals go_ret
 all_goals refine⟨g8 ?_,(g' _ _).alloc (g9 _) _⟩
 all_goals first
  |exact(iP UN).symm
  |exact(iH UN).symm
  |exact sr.2 UN
  |(rw [oK];simp;omega)
  |(simp only [iO,iB,je,jt,ne_eq]at* <;>first|exact(iP UN).symm|exact(iH UN).symm|(rw [oK];simp;done)|(rw [oK];simp;omega))
theorem ED {α:Type}{r:kS α}{S:UO}{w:World}{a:UP}{len cap:Nat}{l:List α}(h:(g4 r).rel S w [.slice a len cap] l)(k:Nat)(K:k<=l.length):(g4 r).rel S w [.slice a k cap] (l.take k):=by
 obtain⟨U,Y,V,u,h1,h2,y,z,G⟩:=h;simp at u;obtain⟨rfl,rfl,rfl⟩:=u;refine⟨a,k,cap,rfl,by simp [K],UN,y,z,λi x j=>G i x ?_⟩;rw [T9]at j;split at j
 ·exact j
 ·simp at j
def mX (l:List Int)(x:Int):Nat->Bool
 |0=>false
 |k+1=>mX l x k||(x==l.getD k 0)
theorem t9 {l:List Int}{x:Int}{k:Nat}(j:(x==l.getD k 0)=true): ∀ {n:Nat},k<n->mX l x n=true
 |0,h=>absurd h (pf _)
 |n+1,h=>by
  unfold mX;rcases kZ k n with h1|h1
  ·rw [t9 j h1];rfl
  ·obtain rfl:k=n:=UN
   rw [j,Bool.or_true]
theorem yM {l:List Int}{x:Int}{k:Nat}(j:k<=l.length): ∀n,n<=k->mX (l.take k) x n=mX l x n
 |0,_=>rfl
 |n+1,h=>by
  unfold mX;rw [yM j n UN,getD_at (l.take k) 0 n (by simp;omega),getD_at l 0 n UN];simp
def hasB (l:List Int)(x:Int):Bool:=mX l x l.length
theorem Hj (l:List Int)(x:Int)(k:Nat)(j:k<=l.length):hasB (l.take k) x=mX l x k:=by
 unfold hasB;rw [Tq,sq j];exact yM j k (g9 _)
theorem Hf (S:UO)(w:World)(a:UP)(cap:Nat)(l:List Int)(h:gZ.rel S w [.slice a l.length cap] l)(x:Int):
 Calls prog 223 #[.slice a l.length cap,x] w λe w'=>(∃i:Int,e= .returned (UZ i)/\(0<=i↔hasB l x=true))/\BW w w':=by
 have U:=(g4.lens h).2;unfold maxLen at U;have H:=Hd h;clear h;go_in;go_wp2_with fail;go_loop [8] (λi=> ∃k:Nat,k<=l.length/\i= UZ k/\Hi (mX l x k=false)) (λi=>l.length-(intOf i).toNat)
 case atStart=>exact⟨0,iy _,rfl,rfl⟩
 case round=>
  obtain⟨k,ab,rfl,z⟩:=hrel;by_cases hlt:k<l.length
  ·obtain⟨b,off,rfl,V,ad,n1,Y⟩:=il H.o k hlt
   have G:=Hd (getD_at l 0 k hlt);generalize l[k]=n at*
   by_cases u:x=n
   ·have y:(x==n)=true:=by simp [u]
    have j:Hi (hasB l x=true):=t9 (k:=k) (by rw [G.o];exact y) hlt;subst u;go_wp2;go_ret;exact⟨⟨_,rfl,λ_=>j.o,λ_=>UN⟩,g' _ _⟩
   ·have y:(x==n)=false:=by simp [u]
    have K:Hi (mX l x (k+1)=false):=Hd (by unfold mX;rw [G.o,z.o,y];rfl);go_wp2_with fail;go_round
    case rel=>exact⟨k+1,UN,by go_num,K⟩
    case measure=>exact UY
  ·obtain rfl:k=l.length:=UN
   have j:Hi (hasB l x=false):=z;go_wp2;go_ret;exact⟨⟨-1,rfl,λh=>UN,λh=>by rw [j.o]at h;cases h⟩,g' _ _⟩
theorem UJ (S:UO)(w:World)(a:UP)(cap:Nat)(l:List Int)(len:Nat)(y:len=l.length)(h:gZ.rel S w [.slice a len cap] l)(x:Int):
 Calls prog 155 #[.slice a len cap,x] w (Rt w (.bool (hasB l x))):=by
 subst y;go_in;go_wp2_with fail;refine(Hf S w a cap l h x).mono ?_;rintro e w1⟨⟨i,rfl,hi⟩,u⟩;have j:=Hd hi;clear hi;go_wp2;go_ret;refine⟨g8 ?_,u⟩;rw [oK,jk];exact j.o
def ut (l:List Int)(k:Nat):Bool:=jC (l.getD k 0)&& !mX l (l.getD k 0) k
def k5 (l:List Int):Bool:=decide (l.length<=4)&&jv (ut l) l.length
theorem y2 (S:UO)(w:World)(a:UP)(cap:Nat)(l:List Int)(h:gZ.rel S w [.slice a l.length cap] l):
 Calls prog 109 #[.slice a l.length cap] w (Rt w (.bool (k5 l))):=by
 have ah:=(g4.lens h).2;unfold maxLen at ah;have H:=Hd h;clear h;by_cases ai:4<l.length
 ·have j:Hi (k5 l=false):=by show _=_;unfold k5;rw [iH UN];rfl
  go_wp2;go_ret;exact⟨g8 j.o.symm,g' _ _⟩
 ·have y:Hi (k5 l=jv (ut l) l.length):=by show _=_;unfold k5;rw [iP UN];rfl
  go_wp2;go_loopw [10] (λi wr=> ∃k:Nat,k<=l.length/\i= UZ k/\Hi (jv (ut l) k=true)/\BW w wr) (λi _=>l.length-(intOf i).toNat)
  case atStart=>exact⟨0,iy _,rfl,rfl,g' _ _⟩
  case round=>
   obtain⟨k,al,rfl,K,u⟩:=hrel;by_cases hlt:k<l.length
   ·have G:=gZ.c' H.o u
    have ae:=Hd (ED G k UN);obtain⟨b,off,rfl,aj,ao,n1,ak⟩:=il G k hlt;have V:=Hd (getD_at l 0 k hlt);have z:Hi (ut l k=(jC l[k]&& !mX l l[k] k)):=Hd (by unfold ut;rw [V.o]);have ab:k=(l.take k).length:=(by simp;omega);have af:=Hd ab;have ad:=Hd (λx=>Hj l x k UN);clear ab V G;generalize l[k]=n at*
    by_cases Y:n<18446744069414584321
    ·go_wp2_with fail
     refine UR (UJ S wr _ cap (l.take k) k af.o ae.o n) λw1 hb1=> ?_;rw [ad.o n]
     cases U:mX l n k with
     |true=>
      have j:Hi (k5 l=false):=by
       show _=_;rw [y.o];exact jp (k:=k) (by rw [z.o,U];simp) hlt
      go_wp2;go_ret;exact⟨g8 j.o.symm,d' u hb1⟩
     |false=>
      have ag:Hi (jv (ut l) (k+1)=true):=lg K.o (by rw [z.o,U];unfold jC;rw [iP Y];rfl);go_wp2;go_roundw
      case rel=>exact⟨k+1,UN,by go_num,ag,d' u hb1⟩
      case measure=>exact UY
    ·have j:Hi (k5 l=false):=by
      show _=_;rw [y.o];exact jp (k:=k) (by rw [z.o];unfold jC;rw [iH Y];rfl) hlt
     go_wp2;go_ret;exact⟨g8 j.o.symm,u⟩
   ·obtain rfl:k=l.length:=UN
    have j:Hi (k5 l=true):=Hd (by rw [y.o];exact K.o);go_wp2;go_ret;exact⟨g8 j.o.symm,u⟩
def tA (o:og):Bool:=jC o.g6&&(rk o.p0 o.p1&&(decide (o.ha.length=3)&&h' o.ha))
def lL (l:List og):Bool:=decide (l.length<=4)&&l.all tA
theorem zn (S:UO)(w:World)(a:UP)(cap:Nat)(l:List og)(h:mK.rel S w [.slice a l.length cap] l):
 Calls prog 110 #[.slice a l.length cap] w (Rt w (.bool (lL l))):=by
 have aw:=(g4.lens h).2;unfold maxLen at aw;have H:=Hd h;clear h;by_cases aD:4<l.length
 ·have u:Hi (lL l=false):=by show _=_;unfold lL;rw [iH UN];rfl
  go_wp2;go_ret;exact⟨g8 u.o.symm,g' _ _⟩
 ·have z:Hi (lL l=l.all tA):=by show _=_;unfold lL;rw [iP UN];rfl
  go_wp2;go_loopw [12] (λy wr=> ∃k:Nat,k<=l.length/\y= UZ k/\Hi ((l.take k).all tA=true)/\BW w wr) (λy _=>l.length-(intOf y).toNat)
  case atStart=>exact⟨0,iy _,rfl,rfl,g' _ _⟩
  case round=>
   obtain⟨k,aI,rfl,ag,ab⟩:=hrel;by_cases hlt:k<l.length
   ·obtain⟨b,off,ca,cc,rfl, -,aE,k1,aJ,aK,ad,c0,c1,c2,aC⟩:=mp (mK.c' H.o ab) k hlt
    obtain⟨V,ay⟩:=ik (all_false tA l k hlt) (jW tA l k hlt);generalize l[k]=o at*;have ax:=(g4.lens ad).2;unfold maxLen at ax;have K:=jc wr (.cells #[o.g6,o.p0,o.p1,.slice ca o.ha.length cc] 156);have ak:=gY wr (.cells #[o.g6,o.p0,o.p1,.slice ca o.ha.length cc] 156);have aq:=Hd (gZ.c' ad K);have ah:=d' ab K;obtain⟨au,az⟩:=ik ak K;have G:Hi (tA o=(jC o.g6&&(rk o.p0 o.p1&&(decide (o.ha.length=3)&&h' o.ha)))):=rfl;clear ad ak K;by_cases ao:o.g6<18446744069414584321
    ·have ar:Hi (jC o.g6=true):=iP ao
     go_wp2_with fail;refine UR (zb _ o.p0 o.p1) λw1 hb1=> ?_;have U:=d' ah hb1;obtain⟨aN,aO⟩:=a' (b' hb1 au.o)
     cases ai:rk o.p0 o.p1 with
     |false=>
      have u:Hi (lL l=false):=Hd (by rw [z.o];exact V.o (by rw [G.o,ai];simp));go_wp2;go_ret;exact⟨g8 u.o.symm,U⟩
     |true=>
      by_cases al:o.ha.length=3
      ·have b3:((o.ha.length:Int)==3)=true:=by rw [iO];omega
       have av:((o.ha.length:Int) != 3)=false:=(by rw [jt];omega);go_wp2_with fail;go_loop [34] (λy=> ∃j:Nat,j<=o.ha.length/\y= UZ j/\Hi (jv (λk=>jC (o.ha.getD k 0)) j=true)) (λy=>o.ha.length-(intOf y).toNat)
       case atStart=>exact⟨0,iy _,rfl,rfl⟩
       case round=>
        obtain⟨j,aH,rfl,af⟩:=hrel;by_cases ae:j<o.ha.length
        ·obtain⟨aA,aM,rfl,aF,aL,n1,aG⟩:=il (gZ.c' aq.o hb1) j ae
         have aj:=Hd (getD_at o.ha 0 j ae);generalize o.ha[j]=n at*
         by_cases ap:n<18446744069414584321
         ·have Y:Hi (jv (λk=>jC (o.ha.getD k 0)) (j+1)=true):=lg af.o (by rw [aj.o];exact iP ap)
          go_wp2_with fail;go_round
          case rel=>exact⟨j+1,UN,by go_num,Y⟩
          case measure=>exact UY
         ·have u:Hi (lL l=false):=by
           show _=_;have:h' o.ha=false:=jp (k:=j) (by rw [aj.o];exact iH ap) ae;rw [z.o];exact V.o (by rw [G.o,this];simp)
          go_wp2;go_ret;exact⟨g8 u.o.symm,U⟩
        ·obtain rfl:j=o.ha.length:=UN
         have Y:Hi ((l.take (k+1)).all tA=true):=by
          show _=_;have:h' o.ha=true:=af.o;rw [ay.o,ag.o,G.o,ar.o,ai,this,iP al];rfl
         go_wp2;go_roundw
         case rel=>exact⟨k+1,UN,by go_num,Y,U⟩
         case measure=>exact UY
      ·have b3:((o.ha.length:Int)==3)=false:=by rw [je];omega
       have av:((o.ha.length:Int) != 3)=true:=(by rw [iB];omega);have u:Hi (lL l=false):=Hd (by rw [z.o];exact V.o (by rw [G.o,iH al];simp));go_wp2;go_ret;exact⟨g8 u.o.symm,U⟩
    ·have u:Hi (lL l=false):=by
      show _=_;have:jC o.g6=false:=iH ao;rw [z.o];exact V.o (by rw [G.o,this];rfl)
     go_wp2;go_ret;exact⟨g8 u.o.symm,ah⟩
   ·obtain rfl:k=l.length:=UN
    have u:Hi (lL l=true):=Hd (by rw [z.o];have:=ag.o;rw [Sw]at this;exact this);go_wp2;go_ret;exact⟨g8 u.o.symm,ab⟩
def oh (t:jO):Bool:=decide (t.g5<18446744069414584321/\0<=t.exp/\t.exp<=1048576)
def hF (t:jO):Int:=if (k5 t.marks&&(lL t.outs&&(kK t&&oh t)))=true then (if t.proof.length<=1048576 then 0 else 3)else 1
theorem m3 (S:UO)(w:World)(t:jO)(ma oa pa:UP)(mc oc pc:Nat)(h:ks S w t ma oa pa mc oc pc):
 Calls prog 74 #[.agg (jQ t ma mc oa oc pa pc)] w (Rt w (UZ (hF t))):=by
 have Y:=jc w (.cells (jQ t ma mc oa oc pa pc) 87);have V:=Hd (gY w (.cells (jQ t ma mc oa oc pa pc) 87));obtain⟨H,ai⟩:=ik (h.c' Y) Y;have aj:=(g4.lens h.proof).2;unfold maxLen at aj;have y:Hi (hF t=if (k5 t.marks&&(lL t.outs&&(kK t&&oh t)))=true then (if t.proof.length<=1048576 then 0 else 3)else 1):=rfl;clear Y h;go_in;go_wp2_with fail;refine UR (y2 S _ ma mc t.marks H.o.marks) λw1 hb1=> ?_;obtain⟨G,K⟩:=a' (b' hb1 V.o);have ag:=d' ai.o hb1
 cases z:k5 t.marks with
 |false=>
  have j:Hi (hF t=1):=Hd (by rw [y.o,z];rfl);go_wp2;go_ret;exact⟨g2 j.o.symm,ag⟩
 |true=>
  go_wp2_with fail;refine UR (zn S w1 oa oc t.outs (mK.c' H.o.outs hb1)) λw2 hb2=> ?_;clear G K;obtain⟨G,K⟩:=a' (b' hb2 (b' hb1 V.o));have ah:=d' ag hb2
  cases ab:lL t.outs with
  |false=>
   have j:Hi (hF t=1):=Hd (by rw [y.o,z,ab];rfl);go_wp2;go_ret;exact⟨g2 j.o.symm,ah⟩
  |true=>
   go_wp2_with fail;refine UR (D0 S w2 t ma oa pa mc oc pc ((H.o.c' hb1).c' hb2)) λal hb3=> ?_;clear G K;obtain⟨G,K⟩:=a' (b' hb3 (b' hb2 (b' hb1 V.o)));have u:=d' ah hb3
   cases af:kK t with
   |false=>
    have j:Hi (hF t=1):=Hd (by rw [y.o,z,ab,af];rfl);go_wp2;go_ret;exact⟨g2 j.o.symm,u⟩
   |true=>
    have U:Hi (hF t=if oh t=true then (if t.proof.length<=1048576 then 0 else 3)else 1):=Hd (by rw [y.o,z,ab,af];rfl);by_cases hr:t.g5<18446744069414584321/\0<=t.exp/\t.exp<=1048576
    ·have ad:Hi (oh t=true):=iP hr
     obtain⟨r1,r2,r3⟩:=hr;by_cases ae:t.proof.length<=1048576
     ·have j:Hi (hF t=0):=by show _=_;rw [U.o,ad.o,g7 rfl,g7 ae]
      have ak: ¬(1048576:Int)<(t.proof.length:Int):=UN;go_wp2;go_ret;exact⟨g2 j.o.symm,u⟩
     ·have j:Hi (hF t=3):=by show _=_;rw [U.o,ad.o,g7 rfl,g3 ae]
      have ak:(1048576:Int)<(t.proof.length:Int):=UN;go_wp2;go_ret;exact⟨g2 j.o.symm,u⟩
    ·have j:Hi (hF t=1):=by
      show _=_;have:oh t=false:=iH hr;rw [U.o,this];rfl
     by_cases r1:t.g5<18446744069414584321
     ·by_cases r2:0<=t.exp
      ·have r3: ¬t.exp<=1048576:=λh=>hr ⟨r1,r2,h⟩
       go_wp2;go_ret;exact⟨g2 j.o.symm,u⟩
      ·go_wp2
       go_ret;exact⟨g2 j.o.symm,u⟩
     ·go_wp2
      go_ret;exact⟨g2 j.o.symm,u⟩
theorem rf (w0 w:World) (B:Nat) (G:Below B w0 w) (z:B<=w0.heap.size) (v:Value) (xs:List Int) (ap:Own ve B 5 (λx=>False\/B<=x) w v xs) (n:Int) (ar:0<=n) (n1:n<18446744073709551616)
 (ax:xs.length<=1000000000):Calls prog 352 #[v,n] w (lJ B w0 (xs++hN 8 n)):=by
 go_wp2
 go_loopw [0,1,5] (λau av y wr=> ∃(k:Nat) (m:Int) (ys:List Int),k<=8/\y= UZ k/\av= U2 m/\0<=m/\m<18446744073709551616/\ys.length=xs.length+k/\Hi (ys++hN (8-k) m=xs++hN 8 n)/\
  Own ve B 5 (λx=>False\/B<=x) wr au ys/\Below B w0 wr/\B<=wr.heap.size) (λ_ _ y _=>8-(intOf y).toNat)
 case atStart=>exact⟨0,n,xs,iy _,rfl,rfl,ar,n1,rfl,rfl,ap,G,iu z G.size⟩
 case round=>
  obtain⟨k,m,ys,aw,rfl,rfl,ay,m1,ad,U,u,K,ao⟩:=hrel;have j:=Hd ad;clear ad;by_cases hlt:k<8
  ·have af:Hi ((ys++ [m % 256])++hN (8-(k+1)) (m / 256)=xs++hN 8 n):=by
    show _=_;rw [<-U.o,Tt,show 8-k=(8-(k+1))+1 by omega];rfl
   have Y:(Lit.int .u8 (m % 256)).wf=true:=by
    simp [Lit.wf,IntKind.min,IntKind.max,IntKind.signed,IntKind.bits];omega
   have ab:ve.rel (λ_=>False) wr [.int .u8 (m % 256)] (m % 256):=⟨rfl,Y⟩;obtain⟨ag,ah⟩:=ik u ab;have aj:0<=m / 256:=UN;have ak:m / 256<18446744073709551616:=UN;clear u ab Y;go_wp2_with (at_builtin;refine km (r:=ve) (wr:=wr) (es:= [.int .u8 (m % 256)]) (v:=u0) (w0:=w0) (B:=B) rfl _ _ rfl iU rfl rfl K ao ag.o ah.o (λx aq=>aq.elim) (by unfold maxLen;have:=j.o;omega) (by have:=j.o;omega) ?_)
   intro v2 w2 V hb2;have ai:=Hd (Own.mono V (F':=λx=>False\/B<=x) λx _ h=>by first|exact h|exact .inr h)
   have al:B<=w2.heap.size:=iu z hb2.size;clear V;go_wp2;go_roundw
   case rel=>exact⟨k+1,m / 256,ys++ [m % 256],UN,by go_num,rfl,aj,ak,by rw [U3,j.o];simp;omega,af,ai.o,hb2,al⟩
   case measure=>exact UY
  ·obtain rfl:k=8:=UN
   have ae:Hi (ys=xs++hN 8 n):=by
    show _=_;rw [<-U.o,sp];simp [hN]
   go_wp2;go_ret;exact⟨_,rfl,by rw [<-ae.o];exact u,K⟩
theorem BO {S:UO}{w:World}{v:Value}{ys:List Int}(h:hD.rel S w [v] ys): ∃s,(convert 52 9 v).run prog w= .ok (.string s) w:=by
 obtain⟨a,cap,rfl, -⟩:=g4.form h
 cases ys with
 |nil=>
  cases a with
  |none=>exact⟨_,run_convert_bytes_nil (P:=prog) w 52 5 underlying52 underlying5 _ _ 9 underlying9⟩
  |some j=>
   refine⟨(Conv.bytesToString (.slice (some j) 0 cap)).run prog w |> λ_=>ByteArray.empty,?_⟩;rw [run_convert_bytes_string (P:=prog) w 52 9 5 _ _ _ underlying52 underlying5 underlying9];have G:(loadCells j 0).run prog w= .ok #[] w:=(by simpa using run_loadCells_list (P:=prog) w j [] US);rw [List.length_nil,run_bytesToString (P:=prog) w j 0 cap [] (by simpa using G)];rfl
 |cons y ys=>
  obtain⟨b,off,es,rfl, -, -, -, -⟩:=g4.at h 0 US;refine⟨_,run_convert_bytes_arg (P:=prog) w 52 5 underlying52 underlying5 b off (y::ys).length cap (y::ys) rfl (λi hi=> ?_) 9 underlying9⟩;obtain⟨K,U,u, -, -, -, -,z⟩:=bytes_at h i hi;simp at u;obtain⟨rfl,rfl⟩:=u;rw [z,getD_at _ _ i hi]
theorem KP (S S':UO)(w:World)(a b:UP)(ca cb:Nat)(l m:List Int)(h:gZ.rel S w [.slice a l.length ca] l)(U:gZ.rel S' w [.slice b m.length cb] m)(ak:l.length<=1000)(al:m.length<=1000):
 Calls prog 267 #[.slice a l.length ca,.slice b m.length cb] w λe w'=>(∃s,e= .returned (.string s))/\BW w w':=by
 obtain⟨H,ab⟩:=ik h U;clear h U;go_in;go_wp2_with (at_make;refine xb rfl _ _ rfl ve w.heap.size iU rfl rfl (n:=8*(m.length+l.length)) ?_ ?_ ?_ ?_ ?_)
 ·go_num
 ·omega
 ·unfold maxLen;omega
 ·exact g9 _
 intro w1 V hb1;have ad:=Hd (Own.mono V (F':=λx=>False\/w.heap.size<=x) λx _ h=> .inr UN);clear V;go_wp2;go_loopw [5,19] (λK u wr=> ∃(k:Nat) (ys:List Int),k<=m.length/\u= UZ k/\ys.length=8*k/\Own ve w.heap.size 5 (λx=>False\/w.heap.size<=x) wr K ys/\BW w wr) (λ_ u _=>m.length-(intOf u).toNat)
 case atStart=>exact⟨0,[],iy _,rfl,rfl,ad.o,hb1⟩
 case round=>
  obtain⟨k,ys,ah,rfl,Y,y,j⟩:=hrel;by_cases hlt:k<m.length
  ·obtain⟨ae,off,rfl,af,G,n1,ag⟩:=il (gZ.c' ab.o j) k hlt
   generalize m[k]=n at*;go_wp2_with fail;refine(rf w wr w.heap.size j (g9 _) _ ys y n G n1 UN).mono ?_;rintro e aj⟨ai,rfl,z,hb3⟩;go_wp2;go_roundw
   case rel=>exact⟨k+1,ys++hN 8 n,UN,by go_num,by rw [U3,hA];omega,z,hb3⟩
   case measure=>exact UY
  ·obtain rfl:k=m.length:=UN
   go_wp2;go_loopw [5,29] (λK u wr=> ∃(k:Nat) (ys:List Int),k<=l.length/\u= UZ k/\ys.length=8*m.length+8*k/\Own ve w.heap.size 5 (λx=>False\/w.heap.size<=x) wr K ys/\BW w wr) (λ_ u _=>l.length-(intOf u).toNat)
   case atStart=>exact⟨0,ys,iy _,rfl,UN,y,j⟩
   case round=>
    clear y j Y;obtain⟨k,ys,ah,rfl,Y,y,j⟩:=hrel;by_cases hlt:k<l.length
    ·obtain⟨ae,off,rfl,af,G,n1,ag⟩:=il (gZ.c' H.o j) k hlt
     generalize l[k]=n at*;go_wp2_with fail;refine(rf w _ w.heap.size j (g9 _) _ ys y n G n1 UN).mono ?_;rintro e aj⟨ai,rfl,z,hb3⟩;go_wp2;go_roundw
     case rel=>exact⟨k+1,ys++hN 8 n,UN,by go_num,by rw [U3,hA];omega,z,hb3⟩
     case measure=>exact UY
    ·obtain rfl:k=l.length:=UN
     obtain⟨s,ao⟩:=BO y.slice;go_wp2;go_ret;exact⟨⟨s,rfl⟩,j⟩
theorem BJ (w:World)(mk:Nat)(h:w.heap[mk]? =some (.map #[] 0))(s:ByteArray):(Instr.lookup 167 (.map (some mk)) (.string s) true).run prog w= .ok (.tuple #[I0,false]) w:=by
 have j:(zeroValue 3).run prog w= .ok I0 w:=by
  have u:(prog.info? 3).map (·.zero)=some (some I0):=UQ;obtain⟨i,hi,j⟩:=vX.1 u;simp [zeroValue,typeInfo,hi,j]
 have y:=MapKept.run_checkKey (P:=prog) (w:=w) (k:= .string s) underlying9 (by simp [MapKept.IsKey]) true 9999;have z:=MapKept.run_findKey (P:=prog) (w:=w) (k:= .string s) (l:= []) (a:=none) underlying9 rfl;simp [Instr.lookup,run_underlying underlying167,MapKept.run_getObj_map h,y,z,j]
theorem KO (S S':UO)(w:World)(a b:UP)(ca cb:Nat)(l:List Int)(x:Int)(h:gZ.rel S w [.slice a l.length ca] l)(j:gZ.rel S' w [.slice b 1 cb] [x])(u:l.length<=1000):
 Calls prog 267 #[.slice a l.length ca,.slice b 1 cb] w λe w'=>(∃s,e= .returned (.string s))/\BW w w':=KP S S' w a b ca cb l [x] h j u US
abbrev pO (p mk:Nat)(w w':World):Prop:=BW w w'/\w'.cell? ⟨p,4,none⟩=some (.map (some mk))/\w'.heap[mk]? =some (.map #[] 0)
theorem pO.drew {p mk:Nat}{w w':World}(h:pO p mk w w'):pO p mk w w'.drew:=⟨h.1.drew,h.2.1,h.2.2⟩
theorem pO.next {p mk:Nat}{w w1 w2:World}(h:pO p mk w w1)(j:BW w1 w2):pO p mk w w2:=⟨d' h.1 j,(j.cell (ko h.2.1)).trans h.2.1,b' j h.2.2⟩
theorem pO.alloc {p mk:Nat}{w w1:World}(h:pO p mk w w1)(o:Obj):pO p mk w (w1.alloc o):=h.next (hd (g' _ _) o)
def ur (label:Int)(l:List Int):Int:=if h' l=true then iD label l else 0
theorem CO (S:UO)(w:World)(p:Nat)(st:Int)(U:r' false st p w)(label:Int)(l0:0<=label)(l1:label<18446744073709551616)(a:UP)(cap:Nat)(l:List Int)(h:gZ.rel S w [.slice a l.length cap] l)(ag:l.length<=1000):
 Calls prog 264 #[.pointer (some ⟨p,0,none⟩),label,.slice a l.length cap] w (Rt w (.tuple #[(ur label l),(h' l)])):=by
 obtain⟨H,G⟩:=ik h U;clear h U;go_in;go_wp2_with fail;refine UR (zy S w a cap l H.o) λw1 hb1=> ?_
 cases j:h' l with
 |false=>
  have u:Hi (ur label l=0):=Hd (by unfold ur;rw [j];rfl);go_wp2;go_ret2;rw [u.o,j];exact⟨rfl,hb1⟩
 |true=>
  have u:Hi (ur label l=iD label l):=Hd (by unfold ur;rw [j];rfl);have ad:=Hd (G.o.c' hb1);obtain⟨mk,ai,ah,q1,q2,aj,ak⟩:=ad.o;have V:pO p mk w1 w1:=⟨g' _ _,(a' q1).1 4,q2⟩;have K:=Hd V;have ao:= @BJ;clear V q1 q2 aj ak;have ab:Hi (iZ label):=ir l0 l1;go_wp2_with fail;go_cut [8,9]from 10 (λap al wc=>al= .bool false/\BW w1 wc)
  case first=>
   go_region_held3 (λw'=>BW w1 w'/\w'.cell? ⟨p,4,none⟩=some (.map (some mk))/\w'.heap[mk]? =some (.map #[] 0))
    (first
      |with_reducible exact pO.drew K.o
      |with_reducible exact z.o
      |with_reducible exact pO.drew (pO.alloc K.o _))
    (first
      |(go_at_call 267
        refine(KO S (λ_=>True) _ _ _ _ _ l label (gZ.c' (gZ.c' H.o hb1) (‹BW w1 _/\_›).1) (gZ.c' (qW w1 _ [label] 1 (by intro x Y;simp at Y;subst Y;exact ab.o) US (by unfold maxLen;omega)) (g' _ _).drew) ag).mono ?_;rintro e aq⟨⟨s,rfl⟩,af⟩;have z:=Hd (pO.next (‹BW w1 _/\_› :pO p mk w1 _) af)))
   go_wp2;go_meet
   case rel=>exact⟨rfl,z.o.1⟩
  case rest=>
   obtain⟨rfl,hbc⟩:=hcut;have y:=d' hb1 hbc;obtain⟨mk,ai,ah,q1, -⟩:=G.o.c' y;obtain⟨c0,c1⟩:=a' q1;clear q1;go_wp2_with fail;refine UR (oQ label l0 S wc a cap l (gZ.c' H.o y) UN) λar ae=> ?_;go_wp2;go_ret2;rw [u.o,j];exact⟨rfl,d' y ae⟩
theorem qZ:9<=maxLen:=by unfold maxLen;omega
theorem Il (w:World)(t:TypeId){x:Int}(j:iZ x):gZ.rel (λ_=>True) (w.alloc (.cells #[x] t)) [.slice (some ⟨w.heap.size,0,none⟩) 1 1] [x]:=
 qW w t [x] 1 (by intro y hy;simp at hy;subst hy;exact j) US (by have:=qZ;omega)
theorem tD (w:World)(t:TypeId){x y:Int}(u:iZ x)(hy:iZ y):gZ.rel (λ_=>True) (w.alloc (.cells #[x,y] t)) [.slice (some ⟨w.heap.size,0,none⟩) 2 2] [x,y]:=
 qW w t [x,y] 2 (by intro z j;simp at j;rcases j with rfl|rfl<;>assumption) US (by have:=qZ;omega)
theorem FI (w:World)(t:TypeId){x y z v:Int}(K:iZ x)(hy:iZ y)(U:iZ z)(G:iZ v):gZ.rel (λ_=>True) (w.alloc (.cells #[x,y,z,v] t)) [.slice (some ⟨w.heap.size,0,none⟩) 4 4] [x,y,z,v]:=
 qW w t [x,y,z,v] 4 (by intro u j;simp at j;rcases j with rfl|rfl|rfl|rfl<;>assumption) US (by have:=qZ;omega)
theorem uU (S:UO)(w:World)(label:Int)(l0:0<=label)(a:UP)(len cap:Nat)(l:List Int)(u:len=l.length)(h:gZ.rel S w [.slice a len cap] l)(y:l.length<=1000):
 Calls prog 266 #[label,.slice a len cap] w (Rt w (U2 (iD label l))):=by
 subst u;go_in;go_wp2_with fail;refine UR (oQ label l0 S w a cap l h UN) λw1 j=> ?_;go_wp2;go_ret;exact⟨rfl,j⟩
theorem wR (w:World)(x:Int)(j:iZ x):Calls prog 172 #[x] w (Rt w (U2 (iD 7 [x]))):=by
 have u:=Hd (Il w 24 j);clear j;go_in;go_wp2_with fail;refine UR (uU (λ_=>True) _ 7 UN _ 1 1 [x] rfl u.o US) λw1 y=> ?_;go_wp2;go_ret;exact⟨rfl,d' (hd (g' _ _) _) y⟩
theorem uV (w:World)(n:Int):Calls prog 350 #[UZ n] w (Rt w (.bool (decide (0<=n/\n<4)))):=by
 go_in;go_wp2_with fail
 all_goals go_ret
 all_goals refine⟨g8 ?_,g' _ _⟩
 all_goals first
  |exact(iP UN).symm
  |exact(iH UN).symm
  |exact sr.2 UN
  |(rw [oK];simp;omega)
def kN (key n:Int):Int:=if 0<=n/\n<4 then iD 1 [key,n]else 0
theorem Am (w:World)(key n:Int)(U:iZ key):Calls prog 260 #[key,UZ n] w (Rt w (U2 (kN key n))):=by
 by_cases j:0<=n/\n<4
 ·have y:Hi (kN key n=iD 1 [key,n]):=by show _=_;unfold kN;rw [g7 j]
  have z:decide (0<=n/\n<4)=true:=iP j;have u:=Hd z;have V:=j.1;have ab:=j.2;have hw:IntKind.u64.wrap n=n:=(by rw [jP];omega);have Y:iZ n:=ir V UN;clear z j;go_in;go_wp2_with fail;refine UR (uV w n) λw1 hb1=> ?_;rw [u.o];have G:=Hd (tD w1 24 U Y);go_wp2_with fail;refine UR (uU (λ_=>True) _ 1 UN _ 2 2 [key,n] rfl G.o US) λw2 K=> ?_;go_wp2;go_ret;exact⟨g2 y.o.symm,d' (hd hb1 _) K⟩
 ·have y:Hi (kN key n=0):=by show _=_;unfold kN;rw [g3 j]
  have u:=Hd (iH j);clear j;go_in;go_wp2_with fail;refine UR (uV w n) λw1 hb1=> ?_;rw [u.o];go_wp2;go_ret;exact⟨g2 y.o.symm,hb1⟩
theorem oO (w:World)(x y:Int)(j:iZ x)(hy:iZ y):Calls prog 128 #[x,y] w (Rt w (U2 (iD 6 [x,y]))):=by
 have u:=Hd (tD w 24 j hy);clear j hy;go_in;go_wp2_with fail;refine UR (oQ 6 UN (λ_=>True) _ _ _ [x,y] u.o US) λw1 z=> ?_;go_wp2;go_ret;exact⟨rfl,d' (hd (g' _ _) _) z⟩
def nj (o:Int)(i:Nat):Int:=if o<18446744069414584321 then iD 4 [o,i]else 0
theorem KC (w:World)(o:Int)(i:Nat)(y:iZ o)(hi:i<=1000):Calls prog 121 #[o,UZ i] w (Rt w (U2 (nj o i))):=by
 have hw:IntKind.u64.wrap (i:Int)=i:=by rw [jP];omega
 have z:=Hd (tD w 24 y (ir (x:=(i:Int)) UN UN));clear y;by_cases u:o<18446744069414584321
 ·have j:Hi (nj o i=iD 4 [o,i]):=by show _=_;unfold nj;rw [g7 u]
  go_in;go_wp2_with fail;refine UR (oQ 4 UN (λ_=>True) _ _ _ [o,(i:Int)] z.o US) λw1 G=> ?_;go_wp2;go_ret;exact⟨g2 j.o.symm,d' (hd (g' _ _) _) G⟩
 ·have j:Hi (nj o i=0):=by show _=_;unfold nj;rw [g3 u]
  go_wp2;go_ret;exact⟨g2 j.o.symm,g' _ _⟩
def kn (marks:List Int)(acc e':Int):Int:=
 if marks.length=0 then (if acc<18446744069414584321/\e'<18446744069414584321 then iD 5 [acc,e']else 0)else (if marks.getD 0 0<18446744069414584321 then marks.getD 0 0 else 0)
theorem E2 (S:UO)(w:World)(a:UP)(cap:Nat)(l:List Int)(h:gZ.rel S w [.slice a l.length cap] l)(x y:Int)(ag:iZ x)(hy:iZ y):
 Calls prog 179 #[.slice a l.length cap,x,y] w (Rt w (U2 (kn l x y))):=by
 have ab:=Hd (tD w 24 ag hy);have ad:=(g4.lens h).2;unfold maxLen at ad;by_cases z:l.length=0
 ·by_cases u:x<18446744069414584321/\y<18446744069414584321
  ·have j:Hi (kn l x y=iD 5 [x,y]):=by show _=_;unfold kn;rw [g7 z,g7 u]
   have K:=u.1;have af:=u.2;clear u h;rw [z];go_in;go_wp2_with fail;refine UR (oQ 5 UN (λ_=>True) _ _ _ [x,y] ab.o US) λw1 ae=> ?_;go_wp2;go_ret;exact⟨g2 j.o.symm,d' (hd (g' _ _) _) ae⟩
  ·have j:Hi (kn l x y=0):=by show _=_;unfold kn;rw [g7 z,g3 u]
   clear h;rw [z];by_cases K:x<18446744069414584321
   ·have af: ¬y<18446744069414584321:=λh=>u ⟨K,h⟩
    go_wp2;go_ret;exact⟨g2 j.o.symm,g' _ _⟩
   ·go_in
    go_wp2;go_ret;exact⟨g2 j.o.symm,g' _ _⟩
 ·have Y:0<l.length:=UN
  obtain⟨b,off,rfl,ah,aj,n1,u⟩:=il h 0 Y;have ai:(0:Int)<(l.length:Int):=UN;rw [xE]at u;have U:=getD_at l 0 0 Y;have G:Hi (kn l x y=if l[0]<18446744069414584321 then l[0]else 0):=Hd (by unfold kn;rw [g3 z,U]);clear U h;generalize l[0]=n at*
  by_cases V:n<18446744069414584321
  ·have j:Hi (kn l x y=n):=by show _=_;rw [G.o,g7 V]
   go_wp2;go_ret;exact⟨g2 j.o.symm,g' _ _⟩
  ·have j:Hi (kn l x y=0):=by show _=_;rw [G.o,g3 V]
   go_wp2;go_ret;exact⟨g2 j.o.symm,g' _ _⟩
theorem uG (label:Int)(l:List Int):iZ (iD label l):=by
 have:=nX label l;exact ir this.1 UN
theorem zz (w:World)(n:jZ)(j:nU n):Calls prog 265 #[.agg #[n.value,n.owner,n.jr,n.blind]] w
 λe w'=>(∃a cap,e= .returned (.slice a 4 cap)/\gZ.rel (λ_=>True) w' [.slice a 4 cap] [n.value,n.owner,n.jr,n.blind])/\BW w w':=by
 have u:=Hd (FI (w.alloc (.cells #[n.value,n.owner,n.jr,n.blind] 260)) 24 j.value j.owner j.jr j.blind);clear j;go_wp2;go_ret;exact⟨⟨_,_,rfl,by simpa using u.o⟩,hd (hd (g' _ _) _) _⟩
def ip (n:jZ):Int:=if ja n=true then iD 2 [n.value,n.owner,n.jr,n.blind]else 0
theorem DN {n:jZ}(h:ja n=true):h' [n.value,n.owner,n.jr,n.blind]=true:=by
 unfold ja at h;rw [jk]at h;simp [h',jv,jC];omega
theorem ti (w:World)(p:Nat)(st:Int)(G:r' false st p w)(n:jZ)(ad:nU n):Calls prog 171 #[.pointer (some ⟨p,0,none⟩),.agg #[n.value,n.owner,n.jr,n.blind]] w
 (Rt w (.tuple #[(ip n),(ja n)])):=by
 have y:=jc w (.cells #[n.value,n.owner,n.jr,n.blind] 260);obtain⟨ab,Y,V⟩:=kT (gY w (.cells #[n.value,n.owner,n.jr,n.blind] 260)) (G.c' y) y;clear y G;go_in;go_wp2_with fail;refine UR (qI _ n) λw1 hb1=> ?_;obtain⟨ag,ah⟩:=a' (b' hb1 ab.o);have U:=d' V.o hb1
 cases j:ja n with
 |false=>
  have u:Hi (ip n=0):=Hd (by unfold ip;rw [j];rfl);go_wp2;go_ret2;rw [u.o,j];exact⟨rfl,U⟩
 |true=>
  have u:Hi (ip n=iD 2 [n.value,n.owner,n.jr,n.blind]):=Hd (by unfold ip;rw [j];rfl);have z:=Hd (DN j);go_wp2_with fail;refine(zz w1 n ad).mono ?_;rintro e w2⟨⟨a,cap,rfl,hr⟩,hb2⟩;have ae:=d' U hb2;go_wp2_with fail;refine UR (CO (λ_=>True) w2 p st (Y.o.c' (d' hb1 hb2)) 2 UN UN a cap [n.value,n.owner,n.jr,n.blind] hr US) λaf hb3=> ?_;have K:ur 2 [n.value,n.owner,n.jr,n.blind]=iD 2 [n.value,n.owner,n.jr,n.blind]:=by unfold ur;rw [z.o];rfl
  rw [z.o,K];clear K;go_wp2;go_ret2;rw [u.o,j];exact⟨rfl,d' ae hb3⟩
def pN (key jr:Int):Bool:=decide (key<18446744069414584321/\jr<18446744069414584321)
def k8 (key jr:Int):Int:=if pN key jr=true then iD 3 [key,jr]else 0
theorem E8 (w:World)(p:Nat)(st:Int)(K:r' false st p w)(key jr:Int)(ad:iZ key)(hr:iZ jr):Calls prog 261 #[.pointer (some ⟨p,0,none⟩),key,jr] w
 (Rt w (.tuple #[(k8 key jr),(pN key jr)])):=by
 have ab:=Hd (tD w 24 ad hr);have z:=jc w (.cells #[key,jr] 24);obtain⟨Y,V⟩:=ik (K.c' z) z;clear z K;by_cases h1:key<18446744069414584321
 ·by_cases h2:jr<18446744069414584321
  ·have j:pN key jr=true:=iP ⟨h1,h2⟩
   have y:Hi (k8 key jr=iD 3 [key,jr]):=Hd (by unfold k8;rw [j];rfl);have u:=Hd j;have G:Hi (h' [key,jr]=true):=Hd (by simp [h',jv,jC];omega);clear j;go_in;go_wp2_with fail;refine UR (CO (λ_=>True) _ p st Y.o 3 UN UN _ _ [key,jr] ab.o US) λae hb3=> ?_;have U:ur 3 [key,jr]=iD 3 [key,jr]:=(by unfold ur;rw [G.o];rfl);rw [G.o,U];clear U;go_wp2;go_ret2;rw [y.o,u.o];exact⟨rfl,d' V.o hb3⟩
  ·have j:pN key jr=false:=iH (λh=>h2 h.2)
   have y:Hi (k8 key jr=0):=Hd (by unfold k8;rw [j];rfl);have u:=Hd j;clear j;go_wp2;go_ret2;rw [y.o,u.o];exact⟨rfl,g' _ _⟩
 ·have j:pN key jr=false:=iH (λh=>h1 h.1)
  have y:Hi (k8 key jr=0):=Hd (by unfold k8;rw [j];rfl);have u:=Hd j;clear j;go_wp2;go_ret2;rw [y.o,u.o];exact⟨rfl,g' _ _⟩
def ku (j pos:Int)(path:List Int):Nat->Int
 |0=>j
 |k+1=>if (bits BinOp.and IntKind.i64 (pos / 2^k) 1==0)=true then iD 6 [ku j pos path k,path.getD k 0]else iD 6 [path.getD k 0,ku j pos path k]
theorem yV {j pos:Int}{path:List Int}(h:iZ j): ∀k,iZ (ku j pos path k)
 |0=>h
 |k+1=>by unfold ku;split<;>exact uG _ _
def jo (j pos:Int)(path:List Int):Int:=
 if path.length<=12/\0<=pos/\pos<2^path.length/\j<18446744069414584321/\h' path=true then ku j pos path path.length else 0
theorem pL: ∀k:Fin 13,IntKind.i64.wrap (2^k.val)=2^k.val/\(0:Int)<2^k.val/\(2:Int)^k.val<=4096:=by decide+kernel
theorem Hv (S:UO)(w:World)(j pos:Int)(V:iZ j)(a:UP)(cap:Nat)(path:List Int)(h:gZ.rel S w [.slice a path.length cap] path)(ax:path.length<=12)(p0:0<=pos)(p1:pos<=4095):
 Calls prog 262 #[j,UZ pos,.slice a path.length cap] w (Rt w (U2 (jo j pos path))):=by
 obtain⟨H,al⟩:=ik h V;obtain⟨l0,l1⟩:=iE V;clear h V;obtain⟨ap,aq,ar⟩:=pL ⟨path.length,UN⟩;simp only at ap aq ar;have az: ¬(12:Int)<(path.length:Int):=by omega
 by_cases aj:pos<2^path.length
 ·by_cases ai:j<18446744069414584321
  ·have HC:Hi (jo j pos path=if h' path=true then ku j pos path path.length else 0):=by
    show _=_;unfold jo;by_cases G:h' path=true
    ·rw [g7 ⟨ax,p0,aj,ai,G⟩,g7 G]
    ·rw [g3 (λh=>G h.2.2.2.2),g3 G]
   generalize ag:(2:Int)^path.length=af at*
   go_in;go_wp2_with fail;go_loop [32] (λi=> ∃k:Nat,k<=path.length/\i= UZ k/\Hi (jv (λk=>jC (path.getD k 0)) k=true)) (λi=>path.length-(intOf i).toNat)
   case atStart=>exact⟨0,iy _,rfl,rfl⟩
   case round=>
    obtain⟨k,aw,rfl,U⟩:=hrel;by_cases hlt:k<path.length
    ·obtain⟨b,off,rfl,au,Y,n1,av⟩:=il H.o k hlt
     have y:=Hd (getD_at path 0 k hlt);generalize path[k]=n at*
     by_cases ak:n<18446744069414584321
     ·have ao:Hi (jv (λk=>jC (path.getD k 0)) (k+1)=true):=lg U.o (by rw [y.o];exact iP ak)
      go_wp2_with fail;go_round
      case rel=>exact⟨k+1,UN,by go_num,ao⟩
      case measure=>exact UY
     ·have u:Hi (jo j pos path=0):=by
       show _=_;have:h' path=false:=jp (k:=k) (by rw [y.o];exact iH ak) hlt;rw [HC.o,this];rfl
      go_wp2;go_ret;exact⟨g2 u.o.symm,g' _ _⟩
    ·obtain rfl:k=path.length:=UN
     have u:Hi (jo j pos path=ku j pos path path.length):=by
      show _=_;have:h' path=true:=U.o;rw [HC.o,this];rfl
     clear U HC;go_wp2;go_loopw [9,42] (λay ab wr=> ∃k:Nat,k<=path.length/\ab= UZ k/\ay= U2 (ku j pos path k)/\BW w wr) (λ_ ab _=>path.length-(intOf ab).toNat)
     case atStart=>exact⟨0,iy _,rfl,rfl,g' _ _⟩
     case round=>
      obtain⟨k,aw,rfl,rfl,z⟩:=hrel;by_cases hlt:k<path.length
      ·obtain⟨b,off,rfl,au,Y,n1,av⟩:=il (gZ.c' H.o z) k hlt
       obtain⟨y,ad⟩:=ik (getD_at path 0 k hlt) (yV (pos:=pos) (path:=path) al.o k);have ae:Hi (ku j pos path (k+1)=if (bits BinOp.and IntKind.i64 (pos / 2^k) 1==0)=true then iD 6 [ku j pos path k,path.getD k 0]else iD 6 [path.getD k 0,ku j pos path k]):=rfl;generalize path[k]=n at*;generalize ku j pos path k=d at*
       cases ah:(bits BinOp.and IntKind.i64 (pos / 2^k) 1==0)with
       |true=>
        have K:Hi (ku j pos path (k+1)=iD 6 [d,n]):=Hd (by rw [ae.o,ah,y.o];rfl);go_wp2_with fail;refine UR (oO wr d n ad.o (ir Y n1)) λw1 hb1=> ?_;go_wp2;go_roundw
        case rel=>exact⟨k+1,UN,by go_num,by rw [K.o],d' z hb1⟩
        case measure=>exact UY
       |false=>
        have K:Hi (ku j pos path (k+1)=iD 6 [n,d]):=Hd (by rw [ae.o,ah,y.o];rfl);go_wp2_with fail;refine UR (oO wr n d (ir Y n1) ad.o) λw1 hb1=> ?_;go_wp2;go_roundw
        case rel=>exact⟨k+1,UN,by go_num,by rw [K.o],d' z hb1⟩
        case measure=>exact UY
      ·obtain rfl:k=path.length:=UN
       go_wp2;go_ret;exact⟨g2 u.o.symm,z⟩
  ·have u:Hi (jo j pos path=0):=by show _=_;unfold jo;rw [g3 (λh=>ai h.2.2.2.1)]
   generalize ag:(2:Int)^path.length=af at*
   go_wp2;go_ret;exact⟨g2 u.o.symm,g' _ _⟩
 ·have u:Hi (jo j pos path=0):=by show _=_;unfold jo;rw [g3 (λh=>aj h.2.2.1)]
  generalize ag:(2:Int)^path.length=af at*
  go_wp2;go_ret;exact⟨g2 u.o.symm,g' _ _⟩
theorem G2 (S:UO)(w:World)(a:UP)(cap:Nat)(l:List jZ)(h:i6.rel S w [.slice a l.length cap] l):
 Calls prog 259 #[.slice a l.length cap] w (Rt w (.bool (l.all ja))):=by
 have U:=(g4.lens h).2;unfold maxLen at U;have H:=Hd h;clear h;go_wp2;go_loopw [7] (λi wr=> ∃k:Nat,k<=l.length/\i= UZ k/\Hi ((l.take k).all ja=true)/\BW w wr) (λi _=>l.length-(intOf i).toNat)
 case atStart=>exact⟨0,iy _,rfl,rfl,g' _ _⟩
 case round=>
  obtain⟨k,af,rfl,y,u⟩:=hrel;by_cases hlt:k<l.length
  ·obtain⟨b,off,rfl,ae,ag,c0,c1,c2,ad⟩:=qX (i6.c' H.o u) k hlt
   obtain⟨Y,ab⟩:=ik (all_false ja l k hlt) (jW ja l k hlt);generalize l[k]=n at*;have V:=jc wr (.cells #[n.value,n.owner,n.jr,n.blind] 260);go_wp2_with fail;refine UR (qI _ n) λw1 hb1=> ?_;have z:=d' (d' u V) hb1
   cases G:ja n with
   |true=>
    have K:Hi ((l.take (k+1)).all ja=true):=Hd (by rw [ab.o,y.o,G];rfl);go_wp2;go_roundw
    case rel=>exact⟨k+1,UN,by go_num,K,z⟩
    case measure=>exact UY
   |false=>
    have j:=Hd (Y.o G);go_wp2;go_ret;exact⟨g8 j.o.symm,z⟩
  ·obtain rfl:k=l.length:=UN
   have j:Hi (l.all ja=true):=(by have:=y.o;rw [Sw]at this;exact this);go_wp2;go_ret;exact⟨g8 j.o.symm,u⟩
def lf (s:iR):Bool:=
 ja s.note&&(h' [s.key]&&(decide (0<=s.number/\s.number<4/\0<=s.hO/\s.hO<=4095/\s.path.length<=12)&&h' s.path))
theorem tF (S:UO)(w:World)(s:iR)(af:qk s)(a:UP)(cap:Nat)(h:gZ.rel S w [.slice a s.path.length cap] s.path):
 Calls prog 258 #[.agg (tx s a cap)] w
  (Rt w (.bool (lf s))):=by
 have V:=jc w (.cells (tx s a cap) 265);have ae:=Hd (gY w (.cells (tx s a cap) 265));obtain⟨aj,H⟩:=ik V (gZ.c' h V);have y:Hi (lf s=(ja s.note&&(h' [s.key]&&(decide (0<=s.number/\s.number<4/\0<=s.hO/\s.hO<=4095/\s.path.length<=12)&&h' s.path)))):=rfl;have aq:=af.key;clear V h af;go_in;go_wp2_with fail;refine UR (qI _ s.note) λw1 hb1=> ?_;have ag:=d' aj.o hb1;obtain⟨ah,ai⟩:=a' (b' hb1 ae.o)
 cases z:ja s.note with
 |false=>
  have j:Hi (lf s=false):=Hd (by rw [y.o,z];rfl);go_wp2;go_ret;exact⟨g8 j.o.symm,ag⟩
 |true=>
  have al:=Hd (Il w1 24 aq);go_wp2_with fail;refine UR (nb (λ_=>True) _ _ 1 [s.key] al.o) λw2 hb2=> ?_;have Y:=jc w1 (.cells #[s.key] 24);have u:=d' (d' ag Y) hb2;clear ah ai;obtain⟨ah,ai⟩:=a' (b' hb2 (b' Y (b' hb1 ae.o)))
  cases ad:h' [s.key]with
  |false=>
   have j:Hi (lf s=false):=Hd (by rw [y.o,z,ad];rfl);go_wp2;go_ret;exact⟨g8 j.o.symm,u⟩
  |true=>
   by_cases ab:0<=s.number/\s.number<4/\0<=s.hO/\s.hO<=4095/\s.path.length<=12
   ·obtain⟨d1,G,K,U,ao⟩:=ab
    have ak:=Hd (iP (⟨d1,G,K,U,ao⟩:0<=s.number/\s.number<4/\0<=s.hO/\s.hO<=4095/\s.path.length<=12));have ap:(s.path.length:Int)<=12:=UN;go_wp2_with fail;refine UR (nb S w2 a cap s.path (gZ.c' (gZ.c' (gZ.c' H.o hb1) Y) hb2)) λar hb3=> ?_;have j:Hi (lf s=h' s.path):=Hd (by rw [y.o,z,ad,ak.o];rfl);go_wp2;go_ret;exact⟨g8 j.o.symm,d' u hb3⟩
   ·have j:Hi (lf s=false):=by show _=_;rw [y.o,z,ad,iH ab];rfl
    by_cases d1:0<=s.number
    ·by_cases G:s.number<4
     ·by_cases K:0<=s.hO
      ·by_cases U:s.hO<=4095
       ·have ap: ¬(s.path.length:Int)<=12:=λh=>ab ⟨d1,G,K,U,UN⟩
        go_wp2;go_ret;exact⟨g8 j.o.symm,u⟩
       ·go_wp2
        go_ret;exact⟨g8 j.o.symm,u⟩
      ·go_wp2
       go_ret;exact⟨g8 j.o.symm,u⟩
     ·go_wp2
      go_ret;exact⟨g8 j.o.symm,u⟩
    ·go_wp2
     go_ret;exact⟨g8 j.o.symm,u⟩
end Go.Proofs.YtjdiofjjoefnhaaGreatDoor
