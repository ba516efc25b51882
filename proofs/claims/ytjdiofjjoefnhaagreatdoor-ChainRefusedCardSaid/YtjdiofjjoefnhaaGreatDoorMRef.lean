/- The reference's field at the big prime: row, Valid, Exponent, Reduce, Add, Mul, Pow, Sum. -/
import Derived.Test.YtjdiofjjoefnhaaGreatDoorMRel
set_option maxRecDepth 100000
set_option maxHeartbeats 4000000
namespace Go.Proofs.YtjdiofjjoefnhaaGreatDoor
open Tryz Go.ChangeShapes Go.WideShapes Go.ChangeAt Go.RowKit Go.Sort
theorem Jg {P:Program} {f:FuncId} {args:Array Value} {w:World} {n:Nat} {v:Value}
 (h:Calls P f args (w.drewN n) λe w'=>e= .returned v/\w.drewN n=w'):Calls P f args (w.drewN n) λe y=>e= .returned v/\ ∃m,y=w.drewN m:=
 h.mono λ_ _ ⟨j,u⟩=>⟨j,n,u.symm⟩
theorem CC (w:World):Calls prog 217 #[.int .u64 18446744069414584321] w (Rt w (.agg #[.int .u64 7,.int .u64 32,.int .u64 7])):=by
 go_in;go_wp2_with fail;refine iQ (v:= .agg #[.int .u64 7,.int .u64 32,.int .u64 7]) (by simp [results,results217,go_sem]) rfl ⟨rfl,?_⟩;exact hd (g' _ _) _
theorem Jv (x y z:Int)(w:World):(Instr.index 230 (.agg #[.int .u64 x,.int .u64 y,.int .u64 z]) (.int .i64 2)).run prog w= .ok (.int .u64 z) w:=by
 have j:(prog.info? 24).map (·.size)=some 1:=UQ
 obtain⟨i,hi,u⟩:=vX.1 j;simp [Instr.index,asIntOf,run_underlying underlying230,sizeOf,typeInfo,hi,u,part,go_sem]
theorem nz (w:World):Calls prog 150 #[.int .u64 18446744069414584321] w (Rt w (.bool true)):=by
 go_in;go_wp2_with fail;refine UR (CC _) λw1 j=> ?_;have u:=Eo 7 32 7;go_wp2;go_ret;exact⟨rfl,j⟩
theorem qF (w:World):Calls prog 294 #[.int .u64 18446744069414584321] w (Rt w (.int .u64 7)):=by
 go_in;go_wp2_with fail;refine UR (CC _) λw1 j=> ?_;have u:=Jv 7 32 7;go_wp2;go_ret;exact⟨rfl,j⟩
theorem kk (a b:Int)(z:0<=a)(G:0<=b)(w:World):
 Calls prog 218 #[.int .u64 18446744069414584321,.int .u64 a,.int .u64 b] w (Rt w (.int .u64 (ig a b))):=by
 have y:Hi (ig a b=(a % 18446744069414584321+b % 18446744069414584321) % 18446744069414584321):=Hd (by unfold ig;omega);have p0:0<=a % 18446744069414584321:=UN
 have p1:a % 18446744069414584321<18446744069414584321:=UN
 have K:0<=b % 18446744069414584321:=UN
 have q1:b % 18446744069414584321<18446744069414584321:=by omega
 by_cases h:a % 18446744069414584321+b % 18446744069414584321<18446744069414584321
 ·have j:Hi (ig a b=a % 18446744069414584321+b % 18446744069414584321):=by show _=_;rw [y.o];omega
  go_in;go_wp2_with fail;refine UR (nz _) λw1 u=> ?_;go_wp2_with fail;go_quiet (fail);go_wp2;go_ret;exact⟨g2 j.o.symm,ny u _⟩
 ·have j:Hi (ig a b=a % 18446744069414584321-(18446744069414584321-b % 18446744069414584321)):=by show _=_;rw [y.o];omega
  go_in;go_wp2_with fail;refine UR (nz _) λw1 u=> ?_;go_wp2_with fail;go_quiet (fail);go_wp2;go_ret;exact⟨g2 j.o.symm,ny u _⟩
theorem uC (a b:Int)(ae:0<=a)(af:0<=b)(w:World):
 Calls prog 219 #[.int .u64 18446744069414584321,.int .u64 a,.int .u64 b] w (Rt w (.int .u64 (kM a b))):=by
 have j:=oE a;have u:=oE b;have z:=Hd (CT a b);have G:Hi (a % 18446744069414584321=mz a):=rfl;have K:Hi (b % 18446744069414584321=mz b):=rfl;obtain⟨U,V,Y,ab⟩:=Gb j.1 j.2 u.1 u.2;have y:=Hd (yI (mz a) (mz b));go_in;go_wp2_with fail;refine UR (nz _) λw1 hb1=> ?_;go_wp2_with fail;go_quiet ((go_at_call 290;rw [G.o,K.o];exact Jg (Ao (mz a) (mz b) j.1 UN u.1 UN _)));have ad:=ny hb1 nq;clear hb1;generalize w1.drewN nq=w2 at*;go_wp2_with fail;refine(Ax _ _ U V Y ab _).mono ?_;rintro e ag⟨q,rfl,hb2⟩;rw [y.o];go_wp2;go_ret;exact⟨g2 z.o,d' ad hb2⟩
theorem x7 (a:Int)(ak:0<=a)(e:Nat)(ae:e<18446744073709551616)(w:World):
 Calls prog 292 #[.int .u64 18446744069414584321,.int .u64 a,.int .u64 e] w λx w'=>x= .returned (.int .u64 (mn a e))/\BW w w':=by
 have hr:=oE a;have ab:Hi (kM 1 (mn (a % 18446744069414584321) e)=mn a e):=Hd (by rw [F3];exact CN a e);go_in;go_wp2_with fail;refine UR (nz _) λw0 ad=> ?_;go_wp2;go_loopw [1,2,7] (λai U aj wr=> ∃(b r:Int) (k:Nat),ai= .int .u64 b/\U= .int .u64 k/\aj= .int .u64 r/\0<=b/\b<18446744069414584321/\0<=r/\r<18446744069414584321/\k<18446744073709551616/\Hi (kM r (mn b k)=mn a e)/\BW w wr) (λ_ U _ _=>(intOf U).toNat)
 case atStart=>exact⟨_,1,e,rfl,rfl,rfl,hr.1,hr.2,UN,UN,ae,ab,ad⟩
 case round=>
  obtain⟨b,r,k,rfl,rfl,rfl,j,al,K,r1,ao,G,z⟩:=hrel;by_cases af:k=0
  ·subst af
   have Y:Hi (r=mn a e):=Hd (by rw [<-G.o,yd K r1]);go_wp2;go_ret;exact⟨g2 Y.o,z⟩
  ·have k1:0<(k:Int):=UN
   have V:=qh r b;have u:=qh b b;by_cases ah:k % 2=1
   ·have y:Hi (kM (kM r b) (mn (kM b b) (k / 2))=mn a e):=by show _=_;rw [pow_odd r b k ah,G.o]
    have ag:(k:Int) % 2=1:=UN;go_wp2_with fail;refine UR (uC r b K j _) λw1 hb1=> ?_;go_wp2_with fail;refine UR (uC b b j j _) λw2 hb2=> ?_;go_wp2;go_roundw
    case rel=>exact⟨kM b b,kM r b,k / 2,rfl,by rw [Cf];rfl,rfl,u.1,u.2,V.1,V.2,UN,y,d' (d' z hb1) hb2⟩
    case measure=>exact UY
   ·have y:Hi (kM r (mn (kM b b) (k / 2))=mn a e):=by show _=_;rw [pow_even r b k UN,G.o]
    have ag:((k:Int) % 2==1)=false:=(by rw [je];omega);go_wp2_with fail;refine UR (uC b b j j _) λw2 hb2=> ?_;go_wp2;go_roundw
    case rel=>exact⟨kM b b,r,k / 2,rfl,by rw [Cf];rfl,rfl,u.1,u.2,K,r1,UN,y,d' z hb2⟩
    case measure=>exact UY
def sumTo (l:List Int):Nat->Int
 |0=>0
 |k+1=>ig (sumTo l k) (l.getD k 0)
theorem IY (l:List Int): ∀k,0<=sumTo l k/\sumTo l k<18446744069414584321
 |0=>by simp [sumTo]
 |k+1=>Bn _ _
theorem Jd (S:UO)(w:World)(a:UP)(len cap:Nat)(l:List Int)(K:len=l.length)(h:gZ.rel S w [.slice a len cap] l):
 Calls prog 362 #[.int .u64 18446744069414584321,.slice a len cap] w (Rt w (.int .u64 (sumTo l l.length))):=by
 subst K;have G:=(g4.lens h).2;unfold maxLen at G;have H:=Hd h;clear h;go_wp2;go_loopw [5,6] (λV u wr=> ∃(k:Nat),k<=l.length/\V= .int .u64 (sumTo l k)/\u= .int .i64 k/\BW w wr) (λ_ u _=>l.length-(intOf u).toNat)
 case atStart=>exact⟨0,iy _,rfl,rfl,g' _ _⟩
 case round=>
  obtain⟨k,ae,rfl,rfl,j⟩:=hrel;by_cases hlt:k<l.length
  ·obtain⟨b,off,rfl,ab,z,Y,ad⟩:=il (gZ.c' H.o j) k hlt
   have y:Hi (sumTo l (k+1)=ig (sumTo l k) l[k]):=(by show ig (sumTo l k) (l.getD k 0)=_;rw [getD_at l 0 k hlt]);have U:=IY l k;have af:(0:Int)<=(k:Int):=UN;have ag:(k:Int)<(l.length:Int):=UN;generalize l[k]=m at*;generalize sumTo l k=s at*;go_wp2_with fail;refine UR (kk s m U.1 z _) λw1 hb1=> ?_;go_wp2;go_roundw
   case rel=>exact⟨k+1,UN,by rw [y.o],by go_num,d' j hb1⟩
   case measure=>exact UY
  ·obtain rfl:k=l.length:=UN
   go_wp2;go_ret;exact⟨rfl,j⟩
theorem qH (r i:Int)(G:0<=r)(r1:r<8)(y:0<=i)(z:i<=2)(w:World):
 Calls prog 293 #[U2 18446744069414584321,UZ r,UZ i] w (Rt w (U2 (oZ r i))):=by
 have hw:0<=IntKind.u64.wrap ((3*r+i+1)*11400714819323198485):=by rw [jP];omega
 have h1: ¬r<0:=UN
 have h2: ¬7<r:=UN
 have j: ¬i<0:=UN
 have u: ¬2<i:=UN
 go_in;go_wp2_with fail;refine UR (nz _) λw1 hb1=> ?_;go_wp2;go_ret;exact⟨g2 (by unfold oZ mz;rfl),hb1⟩
def ss (A B:Obj)(w:World)(q:Nat)(s:T3)(wr:World):Prop:=
 BW w wr/\wr.heap[w.heap.size]? =some A/\wr.heap[w.heap.size+1]? =some B/\wr.heap[q]? =some (.cells #[s.1,s.2.1,s.2.2] 230 (0,0))/\w.heap.size+1<q
theorem ss.next {A B:Obj}{w w1 w2:World}{q:Nat}{s:T3}(h:ss A B w q s w1)(j:BW w1 w2):ss A B w q s w2:=
 ⟨d' h.1 j,b' j h.2.1,b' j h.2.2.1,b' j h.2.2.2.1,h.2.2.2.2⟩
theorem ss.one {A B:Obj}{w wr:World}{q:Nat}{s t:T3}(h:ss A B w q s wr)(i:Nat)(v:Value)(ht:(#[s.1,s.2.1,s.2.2]:Array Value).setIfInBounds i v= #[U2 t.1,U2 t.2.1,U2 t.2.2]):ss A B w q t (wr.setCell ⟨q,i,none⟩ v):=by
 obtain⟨h1,h2,y,z,G⟩:=h;have j:w.heap.size≠q:=UN
 have u:w.heap.size+1≠q:=UN
 exact⟨h1.setCell (by show w.heap.size<=q;omega) _,hB h2 j,hB y u,ht▸h6 z,G⟩
theorem ji (w:World)(a b:Obj):((w.alloc a).alloc b).heap[w.heap.size+1]? =some b/\((w.alloc a).alloc b).heap[w.heap.size]? =some a:=by
 have j:(w.alloc a).heap.size=w.heap.size+1:=U4 ..;exact⟨j▸gY _ b,iq (gY _ a)⟩
theorem KL {a b c:Int}:sumTo [a,b,c] 3=ig (ig a b) c:=by
 simp only [sumTo,List.getD_cons_zero,List.getD_cons_succ];unfold ig;omega
def v4 (a b c m:Int):Nat->T3
 |0=>(0,0,0)
 |1=>(ig a m,0,0)
 |2=>(ig a m,ig b m,0)
 |_=>(ig a m,ig b m,ig c m)
theorem I8 (a b c:Int)(ak:iZ a)(al:iZ b)(ap:iZ c)(w:World):
 Calls prog 295 #[U2 18446744069414584321,.agg #[a,b,c]] w
  (Rt w (.agg #[U2 (tM (a,b,c)).1,U2 (tM (a,b,c)).2.1,U2 (tM (a,b,c)).2.2])):=by
 have ao:=hd (jc w (.cells #[a,b,c] 230)) (.cells #[U0,U0,U0] 230);obtain⟨qB,au⟩:=ji w (.cells #[a,b,c] 230) (.cells #[U0,U0,U0] 230);have aE:((w.alloc (.cells #[a,b,c] 230)).alloc (.cells #[U0,U0,U0] 230)).heap.size=w.heap.size+1+1:=by rw [U4,U4]
 have ad:=qW ((w.alloc (.cells #[a,b,c] 230)).alloc (.cells #[U0,U0,U0] 230)) 24 [a,b,c] 3 (by intro u ar;simp at ar;rcases ar with rfl|rfl|rfl<;>assumption) US (by have:=qZ;omega);rw [aE]at ad;obtain⟨ah,av,aw,ax⟩:=oX ad au qB ao;obtain⟨aC,aG⟩:=iE ak;obtain⟨aD,aH⟩:=iE al;obtain⟨c0,c1⟩:=iE ap;have az:Hi (tM (a,b,c)=(ig a (ig (ig a b) c),ig b (ig (ig a b) c),ig c (ig (ig a b) c))):=rfl;clear ad au qB ao ak al ap;go_in;go_wp2_with fail;generalize (w.alloc (.cells #[a,b,c] 230)).alloc (.cells #[U0,U0,U0] 230)=W at*
 refine UR (Jd (λ_=>True) _ _ 3 3 [a,b,c] rfl ah.o) λw1 hb1=> ?_;rw [show [a,b,c].length=3 from rfl,KL];have V:=d' (jc W (.cells #[a,b,c] 24)) hb1;clear hb1 ah;have ae:=jY (ig a b) c;generalize ig (ig a b) c=m at*;have aK:=V.size
 have aq:ss (.cells #[a,b,c] 230) (.cells #[U0,U0,U0] 230) w w1.heap.size (0,0,0) (w1.alloc (.cells #[U0,U0,U0] 230)):=
  ⟨hd (d' ax.o V) _,iq (b' V av.o),iq (b' V aw.o),gY _ _,UN⟩
 have aA:=Hd aq;clear aq;go_wp2;go_loopw [7] (λaf wr=> ∃k:Nat,k<=3/\af= UZ k/\ss (.cells #[a,b,c] 230) (.cells #[U0,U0,U0] 230) w w1.heap.size (v4 a b c m k) wr) (λaf _=>3-(intOf af).toNat)
 case atStart=>exact⟨0,UN,rfl,aA.o⟩
 case round=>
  obtain⟨k,aJ,rfl,j⟩:=hrel;by_cases aI:k<3
  ·have ab:=Hd j
   obtain⟨U,Y⟩:=a' j.2.1;clear j
   have hcase:k=0\/k=1\/k=2:=UN;rcases hcase with aj|aj|aj
   ·obtain rfl:k=0:=UN
    go_wp2_with fail;refine UR (kk a m aC ae.1 _) λw2 hb2=> ?_;have p1:=ab.o.next hb2;obtain⟨K,ai⟩:=a' p1.2.2.2.1;have G:=Hd (ss.one (t:=v4 a b c m 1) p1 0 (U2 (ig a m)) rfl);clear p1 U Y;unfold v4 at K;go_wp2;go_roundw
    case rel=>exact⟨1,UN,by go_num,G.o⟩
    case measure=>simp [intOf]
   ·obtain rfl:k=1:=UN
    go_wp2_with fail;refine UR (kk b m aD ae.1 _) λw2 hb2=> ?_;have p1:=ab.o.next hb2;obtain⟨K,ai⟩:=a' p1.2.2.2.1;have G:=Hd (ss.one (t:=v4 a b c m 2) p1 1 (U2 (ig b m)) rfl);clear p1 U Y;unfold v4 at K;go_wp2;go_roundw
    case rel=>exact⟨2,UN,by go_num,G.o⟩
    case measure=>simp [intOf]
   ·obtain rfl:k=2:=UN
    go_wp2_with fail;refine UR (kk c m c0 ae.1 _) λw2 hb2=> ?_;have p1:=ab.o.next hb2;obtain⟨K,ai⟩:=a' p1.2.2.2.1;have G:=Hd (ss.one (t:=v4 a b c m 3) p1 2 (U2 (ig c m)) rfl);clear p1 U Y;unfold v4 at K;go_wp2;go_roundw
    case rel=>exact⟨3,UN,by go_num,G.o⟩
    case measure=>simp [intOf]
  ·obtain rfl:k=3:=UN
   obtain⟨U,Y⟩:=a' j.2.2.2.1;obtain⟨ag,aL⟩:=a' j.2.2.1;have ay:=Hd j.1;unfold v4 at U;obtain⟨aF,r1,r2⟩:=lV (x:= U2 (ig a m)) (y:= U2 (ig b m)) (z:= U2 (ig c m)) (ag 0) (ag 1) (ag 2);clear j;go_wp2_with fail;refine iQ (v:= .agg #[(ig a m),(ig b m),(ig c m)]) (by simp [results,results295,go_sem,aF,r1,r2]) rfl ⟨by rw [az.o],?_⟩;exact((ay.o.setCell (o9 _) _).setCell (o9 _) _).setCell (o9 _) _
def pp (w:World)(s:T3)(wr:World):Prop:=
 BW w wr/\wr.heap[w.heap.size]? =some (.cells #[s.1,s.2.1,s.2.2] 230 (0,0))/\wr.heap[w.heap.size+1]? =some (.cells #[U0,U0,U0] 230 (0,0))
theorem pp.next {w w1 w2:World}{s:T3}(h:pp w s w1)(j:BW w1 w2):pp w s w2:=⟨d' h.1 j,b' j h.2.1,b' j h.2.2⟩
theorem pp.start (w:World)(s:T3):pp w s ((w.alloc (.cells #[s.1,s.2.1,s.2.2] 230)).alloc (.cells #[U0,U0,U0] 230)):=by
 obtain⟨q1,q2⟩:=ji w (.cells #[s.1,s.2.1,s.2.2] 230) (.cells #[U0,U0,U0] 230);exact⟨hd (hd (g' _ _) _) _,q2,q1⟩
theorem pp.store {w wr:World}{s:T3}(h:pp w s wr)(t:T3):pp w t (((wr.setCell ⟨w.heap.size,0,none⟩ (U2 t.1)).setCell ⟨w.heap.size,1,none⟩ (U2 t.2.1)).setCell ⟨w.heap.size,2,none⟩ (U2 t.2.2)):=by
 obtain⟨h1,h2,u⟩:=h;have j:w.heap.size+1≠w.heap.size:=UN
 exact⟨((h1.setCell (g9 _) _).setCell (g9 _) _).setCell (g9 _) _,h6 (h6 (h6 h2)),hB (hB (hB u j) j) j⟩
theorem pp.one {w wr:World}{s t:T3}(h:pp w s wr)(i:Nat)(v:Value)(ht:(#[s.1,s.2.1,s.2.2]:Array Value).setIfInBounds i v= #[U2 t.1,U2 t.2.1,U2 t.2.2]):pp w t (wr.setCell ⟨w.heap.size,i,none⟩ v):=by
 obtain⟨h1,h2,u⟩:=h;have j:w.heap.size+1≠w.heap.size:=UN
 exact⟨h1.setCell (g9 _) _,ht▸h6 h2,hB u j⟩
theorem nY (s:T3)(aq:jT s)(w:World):
 Calls prog 220 #[U2 18446744069414584321,.agg #[s.1,s.2.1,s.2.2]] w
  (Rt w (.agg #[U2 (kh s).1,U2 (kh s).2.1,U2 (kh s).2.2])):=by
 obtain⟨ar,av⟩:=ik (pp.start w s) (uS aq);clear aq;go_in;go_wp2_with fail;refine UR (nz _) λw1 hb1=> ?_;have h2:=ar.o.next hb1;clear ar hb1;go_wp2;go_loopw [5] (λi wr=> ∃k:Nat,k<=8/\i= UZ k/\pp w (mY s k) wr) (λi _=>8-(intOf i).toNat)
 case atStart=>exact⟨0,UN,rfl,h2⟩
 case round=>
  obtain⟨k,aC,rfl,ah⟩:=hrel;clear h2;by_cases hlt:k<8
  ·have aj:=av.o k
   have hsucc:Hi (mY s (k+1)=tM (zP k (mY s k) 3)):=rfl;generalize mY s k=t at*
   have ak:(0:Int)<=(k:Int):=UN;have n1:(k:Int)<8:=UN;go_wp2;go_loopw [6] (λi wr=> ∃j:Nat,j<=3/\i= UZ j/\pp w (zP k t j) wr) (λi _=>3-(intOf i).toNat)
   case atStart=>exact⟨0,UN,rfl,ah⟩
   case round=>
    obtain⟨j,az,rfl,V⟩:=hrel;clear ah;by_cases aA:j<3
    ·have hcase:j=0\/j=1\/j=2:=by omega
     rcases hcase with ap|ap|ap
     ·obtain rfl:j=0:=UN
      have G:pp w (t.1,t.2.1,t.2.2) wr:=V;have HQ:=Hd G;have Y:=g0 G.2.1;clear V G;have af:0<=t.1:=(by unfold jT at aj;omega);have ae:=pF k 0;have ad:=jY t.1 (oZ k 0);go_wp2_with fail;refine hI 14 UQ UQ ?_;simp only [Tr,U6,Ty,Tg]
      repeat (quiet_step (first
       |exact ie (qH k 0 ak n1 UN UN _)
       |exact ie (kk t.1 (oZ k 0) af ae _)
       |exact ie (qF _)
       |exact ie (x7 (ig t.1 (oZ k 0)) ad.1 7 UN _)))
      refine lz ?_;intro wq hbq;clear Y;have K:=pp.next HQ.o hbq;obtain⟨c0,c1⟩:=a' K.2.1;have U:=Hd (pp.one (t:=(lT k 0 t.1,t.2.1,t.2.2)) K 0 (U2 (lT k 0 t.1)) rfl);clear K;unfold lT at U;go_wp2;go_roundw
      case rel=>exact⟨1,UN,by go_num,U.o⟩
      case measure=>simp [intOf]
     ·obtain rfl:j=1:=UN
      have G:pp w (lT k 0 t.1,t.2.1,t.2.2) wr:=V;have HQ:=Hd G;have Y:=g0 G.2.1;clear V G;have af:0<=t.2.1:=(by unfold jT at aj;omega);have ae:=pF k 1;have ad:=jY t.2.1 (oZ k 1);go_wp2_with fail;refine hI 14 UQ UQ ?_;simp only [Tr,U6,Ty,Tg]
      repeat (quiet_step (first
       |exact ie (qH k 1 ak n1 UN UN _)
       |exact ie (kk t.2.1 (oZ k 1) af ae _)
       |exact ie (qF _)
       |exact ie (x7 (ig t.2.1 (oZ k 1)) ad.1 7 UN _)))
      refine lz ?_;intro wq hbq;clear Y;have K:=pp.next HQ.o hbq;obtain⟨c0,c1⟩:=a' K.2.1;have U:=Hd (pp.one (t:=(lT k 0 t.1,lT k 1 t.2.1,t.2.2)) K 1 (U2 (lT k 1 t.2.1)) rfl);clear K;unfold lT at U;go_wp2;go_roundw
      case rel=>exact⟨2,UN,by go_num,U.o⟩
      case measure=>simp [intOf]
     ·obtain rfl:j=2:=UN
      have G:pp w (lT k 0 t.1,lT k 1 t.2.1,t.2.2) wr:=V;have HQ:=Hd G;have Y:=g0 G.2.1;clear V G;have af:0<=t.2.2:=(by unfold jT at aj;omega);have ae:=pF k 2;have ad:=jY t.2.2 (oZ k 2);go_wp2_with fail;refine hI 14 UQ UQ ?_;simp only [Tr,U6,Ty,Tg]
      repeat (quiet_step (first
       |exact ie (qH k 2 ak n1 UN UN _)
       |exact ie (kk t.2.2 (oZ k 2) af ae _)
       |exact ie (qF _)
       |exact ie (x7 (ig t.2.2 (oZ k 2)) ad.1 7 UN _)))
      refine lz ?_;intro wq hbq;clear Y;have K:=pp.next HQ.o hbq;obtain⟨c0,c1⟩:=a' K.2.1;have U:=Hd (pp.one (t:=(lT k 0 t.1,lT k 1 t.2.1,lT k 2 t.2.2)) K 2 (U2 (lT k 2 t.2.2)) rfl);clear K;unfold lT at U;go_wp2;go_roundw
      case rel=>exact⟨3,UN,by go_num,U.o⟩
      case measure=>simp [intOf]
    ·obtain rfl:j=3:=UN
     have HQ:=Hd V;obtain⟨Y,al⟩:=a' V.2.1;clear V;generalize ai:zP k t 3=u at*;have ay:=Hd ai;have au:iZ u.1/\iZ u.2.1/\iZ u.2.2:=by
      rw [<-ai];exact⟨ir (m8 _ _ _).1 (m8 _ _ _).2,ir (m8 _ _ _).1 (m8 _ _ _).2,ir (m8 _ _ _).1 (m8 _ _ _).2⟩
     have ag:=Hd au;clear ai au;go_wp2_with fail;refine UR (I8 u.1 u.2.1 u.2.2 ag.o.1 ag.o.2.1 ag.o.2.2 _) λaD hb3=> ?_;have ab:=HQ.o.next hb3;clear Y al;obtain⟨Y,al⟩:=a' ab.2.1;have U:=Hd (pp.store ab (tM (u.1,u.2.1,u.2.2)));clear ab;go_wp2;go_roundw
     case rel=>exact⟨k+1,UN,by go_num,by rw [hsucc.o];exact U.o⟩
     case measure=>exact UY
  ·obtain rfl:k=8:=UN
   obtain⟨h1,h2,ab⟩:=ah;obtain⟨Y,al⟩:=a' h2;obtain⟨ao,aE⟩:=a' ab;have aw:Hi (kh s=mY s 8):=rfl;generalize mY s 8=t at*;obtain⟨ax,r1,r2⟩:=lV (x:= U2 t.1) (y:= U2 t.2.1) (z:= U2 t.2.2) (ao 0) (ao 1) (ao 2);go_wp2_with fail;refine iQ (v:= .agg #[t.1,t.2.1,t.2.2]) (by simp [results,results220,go_sem,ax,r1,r2]) rfl ⟨by rw [aw.o],?_⟩;exact((h1.setCell (o9 _) _).setCell (o9 _) _).setCell (o9 _) _
def pI (w:World)(q:Nat)(s:T3)(wr:World):Prop:=
 BW w wr/\wr.heap[w.heap.size]? =some (.cells #[U0,U0,U0] 230 (0,0))/\wr.heap[q]? =some (.cells #[s.1,s.2.1,s.2.2] 230 (0,0))/\w.heap.size<q
theorem pI.next {w w1 w2:World}{q:Nat}{s:T3}(h:pI w q s w1)(j:BW w1 w2):pI w q s w2:=⟨d' h.1 j,b' j h.2.1,b' j h.2.2.1,h.2.2.2⟩
theorem pI.store {w wr:World}{q:Nat}{s:T3}(h:pI w q s wr)(t:T3):pI w q t (((wr.setCell ⟨q,0,none⟩ (U2 t.1)).setCell ⟨q,1,none⟩ (U2 t.2.1)).setCell ⟨q,2,none⟩ (U2 t.2.2)):=by
 obtain⟨h1,h2,y,z⟩:=h;have j:w.heap.size≠q:=UN
 have u:w.heap.size<=q:=UN
 exact⟨((h1.setCell u _).setCell u _).setCell u _,hB (hB (hB h2 j) j) j,h6 (h6 (h6 y)),z⟩
theorem pI.one {w wr:World}{q:Nat}{s t:T3}(h:pI w q s wr)(i:Nat)(v:Value)(ht:(#[s.1,s.2.1,s.2.2]:Array Value).setIfInBounds i v= #[U2 t.1,U2 t.2.1,U2 t.2.2]):pI w q t (wr.setCell ⟨q,i,none⟩ v):=by
 obtain⟨h1,h2,u,y⟩:=h;have j:w.heap.size≠q:=UN
 exact⟨h1.setCell (by show w.heap.size<=q;omega) _,hB h2 j,ht▸h6 u,y⟩
theorem Dx (label:Int)(aV:0<=label)(S:UO)(w:World)(a:UP)(cap:Nat)(l:List Int)(h:gZ.rel S w [.slice a l.length cap] l)(a9:l.length<=1000000):
 Calls prog 151 #[U2 18446744069414584321,label,.slice a l.length cap] w
  (Rt w (.agg #[U2 (kv label l).1,U2 (kv label l).2.1,U2 (kv label l).2.2])):=by
 have H:=Hd h;clear h;have aN:=qh label 65536;have l0:(0:Int)<=l.length:=UN
 have aY:IntKind.u64.wrap (l.length:Int)=l.length:=by rw [jP];omega
 have aJ:=jc w (.cells #[U0,U0,U0] 230);obtain⟨aG,aH⟩:=ik (gY w (.cells #[U0,U0,U0] 230)) (tj label l.length);have aQ:Hi (ly label l.length=(0,0,ig (kM label 65536) l.length)):=rfl;have aI:(w.alloc (.cells #[U0,U0,U0] 230)).heap.size=w.heap.size+1:=U4 ..;go_in;go_wp2_with fail;refine UR (uC label 65536 aV UN _) λw1 hb1=> ?_;go_wp2_with fail;refine UR (kk (kM label 65536) l.length aN.1 l0 _) λw2 hb2=> ?_;have av:=d' hb1 hb2;have aM:=av.size;rw [aI]at aM
 have aL:pI w w2.heap.size (ly label l.length) (w2.alloc (.cells #[U0,U0,(ig (kM label 65536) l.length)] 230)):=
  ⟨hd (d' aJ av) _,iq (b' av aG.o),by rw [aQ.o];exact gY _ _,UN⟩
 have HQ:=Hd aL;clear aL aN l0 aY aJ aG hb1 hb2 av aM aI;go_wp2_with fail;generalize w2.alloc (.cells #[U0,U0,(ig (kM label 65536) l.length)] 230)=wc at*;generalize w2.heap.size=q at*
 by_cases ar:l.length=0
 ·have aP:Hi (kv label l=kh (ly label l.length)):=by show _=_;unfold kv;rw [g7 ar,ar]
  generalize ly label l.length=s at*
  go_loopw [8] (λak wr=> ∃(i:Int) (t:T3),ak= UZ i/\pI w q t wr/\Hi ((i=0/\t=s)\/(i=2/\t=kh s))) (λak _=>2-(intOf ak).toNat)
  case atStart=>exact⟨0,s,rfl,HQ.o,.inl ⟨rfl,rfl⟩⟩
  case round=>
   obtain⟨i,t,rfl,j,aW⟩:=hrel;rcases aW.o with⟨rfl,rfl⟩|⟨rfl,rfl⟩
   ·have Y:=Hd j
    obtain⟨c0,c1⟩:=a' j.2.2.1;clear j
    have aZ: ¬(0:Int)<(l.length:Int):=UN;have bb: ¬(1:Int)<(l.length:Int):=UN;clear ar;go_wp2_with fail;refine UR (nY t aH.o _) λbe hb3=> ?_;have u:=Y.o.next hb3;clear c0 c1;obtain⟨c0,c1⟩:=a' u.2.2.1;have ab:=Hd (pI.store u (kh t));clear u;go_wp2;go_roundw
    case rel=>exact⟨2,kh t,by go_num,ab.o,.inr ⟨rfl,rfl⟩⟩
    case measure=>simp [intOf]
   ·have ay:=Hd j.1
    obtain⟨G,a7⟩:=a' j.2.1;obtain⟨U,aF⟩:=a' j.2.2.1;clear j
    have aZ: ¬(2:Int)<(l.length:Int):=UN;clear ar;generalize kh s=t at*;obtain⟨aD,r1,r2⟩:=lV (x:= U2 t.1) (y:= U2 t.2.1) (z:= U2 t.2.2) (G 0) (G 1) (G 2);go_wp2_with fail;refine iQ (v:= .agg #[t.1,t.2.1,t.2.2]) (by simp [results,results151,go_sem,aD,r1,r2]) rfl ⟨by rw [aP.o],?_⟩;exact((ay.o.setCell (g9 _) _).setCell (g9 _) _).setCell (g9 _) _
 ·have aT:Hi (kv label l=jN (ly label l.length) l):=by show _=_;unfold kv;rw [g3 ar]
  generalize ly label l.length=s0 at*
  go_loopw [8] (λak wr=> ∃(i:Nat) (s:T3),i<=l.length+1/\ak= UZ i/\jT s/\pI w q s wr/\Hi (jN s (l.drop i)=jN s0 l)) (λak _=>l.length+2-(intOf ak).toNat)
  case atStart=>exact⟨0,s0,UN,rfl,aH.o,HQ.o,rfl⟩
  case round=>
   obtain⟨i,s,hi,rfl,K,j,aq⟩:=hrel;by_cases hlt:i<l.length
   ·obtain⟨b,off,rfl,aw,af,a8,ax⟩:=il H.o i hlt
    by_cases aK:i=0
    ·have aF:((i:Int)==0)=true:=by rw [iO];omega
     clear aK;have ae:0<=s.1:=(by unfold jT at K;omega);have sm:0<=s.2.1:=(by unfold jT at K;omega);have a0:(0:Int)<=(i:Int):=UN;have a1:(i:Int)<(l.length:Int):=UN;have au:=jY s.1 l[i];by_cases hlt2:i+1<l.length
     ·have ah:=Hd (tb s l i hlt2)
      obtain⟨b2,a4,al,aA,f0,aU,ao⟩:=il H.o (i+1) hlt2;simp at al;obtain⟨rfl,rfl⟩:=al;have az:=Hd ao;clear ao;have aC:(i:Int)+1<(l.length:Int):=UN;have a2:(0:Int)<=(i:Int)+1:=UN;have a3:((i:Int)+1).toNat=i+1:=UN;have aX:IntKind.i64.wrap ((i:Int)+1)=(i:Int)+1:=(by rw [rX];omega);have sb:=jY s.2.1 l[i+1];generalize l[i]=m at*;generalize l[i+1]=m2 at*
      have ag:Hi (jN (kh (ig s.1 m,ig s.2.1 m2,s.2.2)) (l.drop (i+2))=jN s0 l):=Hd (by rw [<-ah.o,aq.o]);have ai:Hi (jT (ig s.1 m,ig s.2.1 m2,s.2.2)):=(by unfold jT at K;exact⟨au,sb,K.2.2⟩);have Y:=Hd j;have V:=(j.1.cell (p:=⟨b,off+i,none⟩) aw).trans ax;have G:=g0 j.2.2.1;have U:=hW V;clear j V;go_wp2_with fail;refine hI 8 UQ UQ ?_;simp only [Tr,U6,Ty,Tg]
      repeat (first|go_big_quiet_step (exact ie (kk s.1 m ae af _))|quiet_step (exact ie (kk s.1 m ae af _)))
      refine lz ?_;intro wq hbq;clear G U;have p1:=Y.o.next hbq;obtain⟨c0,c1⟩:=a' p1.2.2.1;have ad:=Hd (pI.one (t:=(ig s.1 m,s.2.1,s.2.2)) p1 0 (U2 (ig s.1 m)) rfl);clear p1;go_wp2_with fail;generalize wq.setCell ⟨q,0,none⟩ (U2 (ig s.1 m))=a6 at ad⊢;clear c0 c1;have ap:=(ad.o.1.cell (p:=⟨b,off+(i+1),none⟩) aA).trans az.o;have G:=g0 ad.o.2.2.1;have U:=hW ap;clear ap;refine hI 9 UQ UQ ?_;simp only [Tr,U6,Ty,Tg]
      repeat (first|go_big_quiet_step (exact ie (kk s.2.1 m2 sm f0 _))|quiet_step (exact ie (kk s.2.1 m2 sm f0 _)))
      refine lz ?_;intro a5 Ie;clear G U;have p1:=ad.o.next Ie;obtain⟨c0,c1⟩:=a' p1.2.2.1;have aj:=Hd (pI.one (t:=(ig s.1 m,ig s.2.1 m2,s.2.2)) p1 1 (U2 (ig s.2.1 m2)) rfl);clear p1;go_wp2_with fail;refine UR (nY (ig s.1 m,ig s.2.1 m2,s.2.2) ai.o _) λaE hb5=> ?_;have u:=aj.o.next hb5;clear c0 c1;obtain⟨c0,c1⟩:=a' u.2.2.1;have ab:=Hd (pI.store u (kh (ig s.1 m,ig s.2.1 m2,s.2.2)));clear u;go_wp2;go_roundw
      case rel=>exact⟨i+2,kh (ig s.1 m,ig s.2.1 m2,s.2.2),UN,by go_num,nI _,ab.o,ag⟩
      case measure=>exact UY
     ·have ah:=Hd (td s l i hlt UN)
      generalize l[i]=m at*
      have aC: ¬((i:Int)+1<(l.length:Int)):=UN;have ag:Hi (jN (kh (ig s.1 m,s.2.1,s.2.2)) (l.drop (i+2))=jN s0 l):=by
       show _=_;rw [<-aq.o,ah.o,TM UN];rfl
      have ai:Hi (jT (ig s.1 m,s.2.1,s.2.2)):=(by unfold jT at K;exact⟨au,K.2.1,K.2.2⟩);have Y:=Hd j;have V:=(j.1.cell (p:=⟨b,off+i,none⟩) aw).trans ax;have G:=g0 j.2.2.1;have U:=hW V;clear j V;go_wp2_with fail;refine hI 8 UQ UQ ?_;simp only [Tr,U6,Ty,Tg]
      repeat (first|go_big_quiet_step (exact ie (kk s.1 m ae af _))|quiet_step (exact ie (kk s.1 m ae af _)))
      refine lz ?_;intro wq hbq;clear G U;have p1:=Y.o.next hbq;obtain⟨c0,c1⟩:=a' p1.2.2.1;have aj:=Hd (pI.one (t:=(ig s.1 m,s.2.1,s.2.2)) p1 0 (U2 (ig s.1 m)) rfl);clear p1;go_wp2_with fail;refine UR (nY (ig s.1 m,s.2.1,s.2.2) ai.o _) λaE hb5=> ?_;have u:=aj.o.next hb5;clear c0 c1;obtain⟨c0,c1⟩:=a' u.2.2.1;have ab:=Hd (pI.store u (kh (ig s.1 m,s.2.1,s.2.2)));clear u;go_wp2;go_roundw
      case rel=>exact⟨i+2,kh (ig s.1 m,s.2.1,s.2.2),UN,by go_num,nI _,ab.o,ag⟩
      case measure=>exact UY
    ·have aF:((i:Int)==0)=false:=by rw [je];omega
     clear aK;have ae:0<=s.1:=(by unfold jT at K;omega);have sm:0<=s.2.1:=(by unfold jT at K;omega);have a0:(0:Int)<=(i:Int):=UN;have a1:(i:Int)<(l.length:Int):=UN;have au:=jY s.1 l[i];by_cases hlt2:i+1<l.length
     ·have ah:=Hd (tb s l i hlt2)
      obtain⟨b2,a4,al,aA,f0,aU,ao⟩:=il H.o (i+1) hlt2;simp at al;obtain⟨rfl,rfl⟩:=al;have az:=Hd ao;clear ao;have aC:(i:Int)+1<(l.length:Int):=UN;have a2:(0:Int)<=(i:Int)+1:=UN;have a3:((i:Int)+1).toNat=i+1:=UN;have aX:IntKind.i64.wrap ((i:Int)+1)=(i:Int)+1:=(by rw [rX];omega);have sb:=jY s.2.1 l[i+1];generalize l[i]=m at*;generalize l[i+1]=m2 at*
      have ag:Hi (jN (kh (ig s.1 m,ig s.2.1 m2,s.2.2)) (l.drop (i+2))=jN s0 l):=Hd (by rw [<-ah.o,aq.o]);have ai:Hi (jT (ig s.1 m,ig s.2.1 m2,s.2.2)):=(by unfold jT at K;exact⟨au,sb,K.2.2⟩);have Y:=Hd j;have V:=(j.1.cell (p:=⟨b,off+i,none⟩) aw).trans ax;have G:=g0 j.2.2.1;have U:=hW V;clear j V;go_wp2_with fail;refine hI 8 UQ UQ ?_;simp only [Tr,U6,Ty,Tg]
      repeat (first|go_big_quiet_step (exact ie (kk s.1 m ae af _))|quiet_step (exact ie (kk s.1 m ae af _)))
      refine lz ?_;intro wq hbq;clear G U;have p1:=Y.o.next hbq;obtain⟨c0,c1⟩:=a' p1.2.2.1;have ad:=Hd (pI.one (t:=(ig s.1 m,s.2.1,s.2.2)) p1 0 (U2 (ig s.1 m)) rfl);clear p1;go_wp2_with fail;generalize wq.setCell ⟨q,0,none⟩ (U2 (ig s.1 m))=a6 at ad⊢;clear c0 c1;have ap:=(ad.o.1.cell (p:=⟨b,off+(i+1),none⟩) aA).trans az.o;have G:=g0 ad.o.2.2.1;have U:=hW ap;clear ap;refine hI 9 UQ UQ ?_;simp only [Tr,U6,Ty,Tg]
      repeat (first|go_big_quiet_step (exact ie (kk s.2.1 m2 sm f0 _))|quiet_step (exact ie (kk s.2.1 m2 sm f0 _)))
      refine lz ?_;intro a5 Ie;clear G U;have p1:=ad.o.next Ie;obtain⟨c0,c1⟩:=a' p1.2.2.1;have aj:=Hd (pI.one (t:=(ig s.1 m,ig s.2.1 m2,s.2.2)) p1 1 (U2 (ig s.2.1 m2)) rfl);clear p1;go_wp2_with fail;refine UR (nY (ig s.1 m,ig s.2.1 m2,s.2.2) ai.o _) λaE hb5=> ?_;have u:=aj.o.next hb5;clear c0 c1;obtain⟨c0,c1⟩:=a' u.2.2.1;have ab:=Hd (pI.store u (kh (ig s.1 m,ig s.2.1 m2,s.2.2)));clear u;go_wp2;go_roundw
      case rel=>exact⟨i+2,kh (ig s.1 m,ig s.2.1 m2,s.2.2),UN,by go_num,nI _,ab.o,ag⟩
      case measure=>exact UY
     ·have ah:=Hd (td s l i hlt UN)
      generalize l[i]=m at*
      have aC: ¬((i:Int)+1<(l.length:Int)):=UN;have ag:Hi (jN (kh (ig s.1 m,s.2.1,s.2.2)) (l.drop (i+2))=jN s0 l):=by
       show _=_;rw [<-aq.o,ah.o,TM UN];rfl
      have ai:Hi (jT (ig s.1 m,s.2.1,s.2.2)):=(by unfold jT at K;exact⟨au,K.2.1,K.2.2⟩);have Y:=Hd j;have V:=(j.1.cell (p:=⟨b,off+i,none⟩) aw).trans ax;have G:=g0 j.2.2.1;have U:=hW V;clear j V;go_wp2_with fail;refine hI 8 UQ UQ ?_;simp only [Tr,U6,Ty,Tg]
      repeat (first|go_big_quiet_step (exact ie (kk s.1 m ae af _))|quiet_step (exact ie (kk s.1 m ae af _)))
      refine lz ?_;intro wq hbq;clear G U;have p1:=Y.o.next hbq;obtain⟨c0,c1⟩:=a' p1.2.2.1;have aj:=Hd (pI.one (t:=(ig s.1 m,s.2.1,s.2.2)) p1 0 (U2 (ig s.1 m)) rfl);clear p1;go_wp2_with fail;refine UR (nY (ig s.1 m,s.2.1,s.2.2) ai.o _) λaE hb5=> ?_;have u:=aj.o.next hb5;clear c0 c1;obtain⟨c0,c1⟩:=a' u.2.2.1;have ab:=Hd (pI.store u (kh (ig s.1 m,s.2.1,s.2.2)));clear u;go_wp2;go_roundw
      case rel=>exact⟨i+2,kh (ig s.1 m,s.2.1,s.2.2),UN,by go_num,nI _,ab.o,ag⟩
      case measure=>exact UY
   ·have aO:Hi (kv label l=s):=by
     show _=_;rw [aT.o,<-aq.o,TM UN];rfl
    have aF:((i:Int)==0)=false:=(by rw [je];omega);have ay:=Hd j.1;obtain⟨G,a7⟩:=a' j.2.1;obtain⟨U,bf⟩:=a' j.2.2.1;clear j;obtain⟨aD,r1,r2⟩:=lV (x:= U2 s.1) (y:= U2 s.2.1) (z:= U2 s.2.2) (G 0) (G 1) (G 2);go_wp2_with fail;refine iQ (v:= .agg #[s.1,s.2.1,s.2.2]) (by simp [results,results151,go_sem,aD,r1,r2]) rfl ⟨by rw [aO.o],?_⟩;exact((ay.o.setCell (g9 _) _).setCell (g9 _) _).setCell (g9 _) _
theorem oy (label:Int)(u:0<=label)(S:UO)(w:World)(a:UP)(cap:Nat)(l:List Int)(h:gZ.rel S w [.slice a l.length cap] l)(y:l.length<=1000000):
 Calls prog 101 #[U2 18446744069414584321,label,.slice a l.length cap] w (Rt w (U2 (iD label l))):=by
 have j:Hi (iD label l=(kv label l).1):=rfl;go_in;go_wp2_with fail;refine UR (nz _) λw1 hb1=> ?_;go_wp2_with fail;refine UR (Dx label u S w1 a cap l (gZ.c' h hb1) y) λw2 hb2=> ?_;generalize kv label l=t at*;have z:=Eo t.1 t.2.1 t.2.2;go_wp2;go_ret;exact⟨g2 j.o.symm,d' hb1 hb2⟩
theorem nZ (w:World)(n:Int):Calls prog 272 #[n] w (Rt w (.bool (jC n))):=by
 go_wp2;go_ret;exact⟨rfl,g' _ _⟩
theorem qG (S:UO)(w:World)(a:UP)(len cap:Nat)(l:List Int)(V:len=l.length)(h:gZ.rel S w [.slice a len cap] l):
 Calls prog 275 #[.slice a len cap] w (Rt w (.bool (h' l))):=by
 subst V;have U:=(g4.lens h).2;unfold maxLen at U;have H:=Hd h;clear h;go_wp2;go_loopw [3] (λi wr=> ∃k:Nat,k<=l.length/\i= UZ k/\Hi (jv (λk=>jC (l.getD k 0)) k=true)/\BW w wr) (λi _=>l.length-(intOf i).toNat)
 case atStart=>exact⟨0,iy _,rfl,rfl,g' _ _⟩
 case round=>
  obtain⟨k,ad,rfl,y,j⟩:=hrel;by_cases hlt:k<l.length
  ·obtain⟨b,off,rfl,Y,ag,n1,ab⟩:=il (gZ.c' H.o j) k hlt
   have z:=Hd (getD_at l 0 k hlt);have ae:(0:Int)<=(k:Int):=UN;have af:(k:Int)<(l.length:Int):=UN;generalize l[k]=n at*;go_wp2_with fail;refine UR (nZ wr n) λw1 hb1=> ?_
   cases G:jC n with
   |true=>
    have K:Hi (jv (λk=>jC (l.getD k 0)) (k+1)=true):=lg y.o (by rw [z.o];exact G);go_wp2;go_roundw
    case rel=>exact⟨k+1,UN,by go_num,K,d' j hb1⟩
    case measure=>exact UY
   |false=>
    have u:Hi (h' l=false):=jp (k:=k) (by rw [z.o];exact G) hlt;go_wp2;go_ret;exact⟨g8 u.o.symm,d' j hb1⟩
  ·obtain rfl:k=l.length:=UN
   have u:Hi (h' l=true):=y;go_wp2;go_ret;exact⟨g8 u.o.symm,j⟩
theorem oH (S:UO)(w:World)(a:UP)(cap:Nat)(l:List Int)(h:gZ.rel S w [.slice a l.length cap] l):
 Calls prog 275 #[.slice a l.length cap] w (Rt w (.bool (h' l))):=qG S w a _ cap l rfl h
theorem LC (w:World)(t:TypeId){x y z:Int}(G:iZ x)(hy:iZ y)(K:iZ z):gZ.rel (λ_=>True) (w.alloc (.cells #[x,y,z] t)) [.slice (some ⟨w.heap.size,0,none⟩) 3 3] [x,y,z]:=
 qW w t [x,y,z] 3 (by intro u j;simp at j;rcases j with rfl|rfl|rfl<;>assumption) US (by have:=qZ;omega)
theorem DM (n:jZ)(h:n.value<=4294967295):h' [n.owner,n.jr,n.blind]=ja n:=by
 rw [oK];simp [h',jv,jC,ja,h];omega
theorem n7 (w:World)(n:jZ)(j:nU n):Calls prog 279 #[.agg #[n.value,n.owner,n.jr,n.blind]] w (Rt w (.bool (ja n))):=by
 have z:=jc w (.cells #[n.value,n.owner,n.jr,n.blind] 260);have u:=LC (w.alloc (.cells #[n.value,n.owner,n.jr,n.blind] 260)) 24 j.owner j.jr j.blind;rw [U4]at u;obtain⟨V,y⟩:=ik u z;clear u z j;by_cases G:n.value<=4294967295
 ·have U:=Hd (DM n G)
  go_in;go_wp2_with fail;refine UR (qG (λ_=>True) _ _ 3 3 [n.owner,n.jr,n.blind] rfl V.o) λw1 hb1=> ?_;rw [U.o];go_wp2;go_ret;exact⟨rfl,d' (hd y.o _) hb1⟩
 ·have K:Hi (ja n=false):=iH (λh=>G h.1)
  go_wp2;go_ret;exact⟨g8 K.o.symm,y.o⟩
theorem GM (w:World)(n:jZ)(j:nU n):Calls prog 282 #[.agg #[n.value,n.owner,n.jr,n.blind]] w
 λe w'=>(∃a cap,e= .returned (.slice a 4 cap)/\gZ.rel (λ_=>True) w' [.slice a 4 cap] [n.value,n.owner,n.jr,n.blind])/\BW w w':=by
 have u:=Hd (FI (w.alloc (.cells #[n.value,n.owner,n.jr,n.blind] 260)) 24 j.value j.owner j.jr j.blind);clear j;go_wp2;go_ret;exact⟨⟨_,_,rfl,by simpa using u.o⟩,hd (hd (g' _ _) _) _⟩
theorem Dv (w:World)(n:jZ)(z:nU n):Calls prog 280 #[.agg #[n.value,n.owner,n.jr,n.blind]] w (Rt w (U2 (ip n))):=by
 have y:=jc w (.cells #[n.value,n.owner,n.jr,n.blind] 260);obtain⟨V,U,u⟩:=kT (gY w (.cells #[n.value,n.owner,n.jr,n.blind] 260)) y z;clear y z;go_in;go_wp2_with fail;refine UR (n7 _ n u.o) λw1 hb1=> ?_;obtain⟨ad,ae⟩:=a' (b' hb1 V.o);have K:=d' U.o hb1
 cases G:ja n with
 |false=>
  have j:Hi (ip n=0):=Hd (by unfold ip;rw [G];rfl);go_wp2;go_ret;exact⟨g2 j.o.symm,K⟩
 |true=>
  have j:Hi (ip n=iD 2 [n.value,n.owner,n.jr,n.blind]):=Hd (by unfold ip;rw [G];rfl);go_wp2_with fail;refine(GM w1 n u.o).mono ?_;rintro e w2⟨⟨a,cap,rfl,hr⟩,hb2⟩;have Y:=d' K hb2;go_wp2_with fail;refine UR (oy 2 UN (λ_=>True) w2 a cap [n.value,n.owner,n.jr,n.blind] hr US) λab hb3=> ?_;go_wp2;go_ret;exact⟨g2 j.o.symm,d' Y hb3⟩
theorem GN (w:World)(key jr:Int)(G:iZ key)(hr:iZ jr):Calls prog 357 #[key,jr] w (Rt w (U2 (k8 key jr))):=by
 go_in;go_wp2_with fail;refine UR (nZ w key) λw1 hb1=> ?_
 cases h1:jC key with
 |false=>
  have j:pN key jr=false:=iH (λh=>by have:=of_decide_eq_false h1;exact this h.1);have u:Hi (k8 key jr=0):=Hd (by unfold k8;rw [j];rfl);clear j;go_wp2;go_ret;exact⟨g2 u.o.symm,hb1⟩
 |true=>
  go_wp2_with fail;refine UR (nZ w1 jr) λw2 hb2=> ?_;have y:=d' hb1 hb2
  cases h2:jC jr with
  |false=>
   have j:pN key jr=false:=iH (λh=>by have:=of_decide_eq_false h2;exact this h.2);have u:Hi (k8 key jr=0):=Hd (by unfold k8;rw [j];rfl);clear j;go_wp2;go_ret;exact⟨g2 u.o.symm,y⟩
  |true=>
   have j:pN key jr=true:=iP ⟨mU h1,mU h2⟩;have u:Hi (k8 key jr=iD 3 [key,jr]):=Hd (by unfold k8;rw [j];rfl);have z:=Hd (tD w2 24 G hr);clear j;go_wp2_with fail;refine UR (oy 3 UN (λ_=>True) _ _ _ [key,jr] z.o US) λK hb3=> ?_;go_wp2;go_ret;exact⟨g2 u.o.symm,d' (hd y _) hb3⟩
theorem tu (w:World)(x y:Int)(j:iZ x)(hy:iZ y):Calls prog 205 #[x,y] w (Rt w (U2 (iD 6 [x,y]))):=by
 have u:=Hd (tD w 24 j hy);clear j hy;go_in;go_wp2_with fail;refine UR (oy 6 UN (λ_=>True) _ _ _ [x,y] u.o US) λw1 z=> ?_;go_wp2;go_ret;exact⟨rfl,d' (hd (g' _ _) _) z⟩
theorem yF (w:World)(n:Int):Calls prog 356 #[UZ n] w (Rt w (.bool (decide (0<=n/\n<4)))):=by
 go_in;go_wp2_with fail
 all_goals go_ret
 all_goals refine⟨g8 ?_,g' _ _⟩
 all_goals first
  |exact(iP UN).symm
  |exact(iH UN).symm
  |exact sr.2 UN
  |(rw [oK];simp;omega)
theorem vK (a b:Int):ig a (mz b)=ig a b:=by unfold ig mz;omega
theorem wS: ∀(n:Nat) (s:T3) (l:List Int),l.length<=n->jN s (l.map mz)=jN s l
 |_,_,[],_=>rfl
 |_,s,[x],_=>by
  rw [UG,List.map_nil];unfold jN;rw [vK]
 |0,_,_::_::_,h=>absurd h US
 |n+1,s,x::y::r,h=>by
  have h2:=wS n (kh (ig s.1 x,ig s.2.1 y,s.2.2)) r (by simp at h;omega);rw [UG,UG];unfold jN;rw [vK,vK,h2]
theorem Hh (label:Int)(l:List Int):iD label (l.map mz)=iD label l:=by
 unfold iD kv;rw [TC,wS _ _ _ (g9 _)]
theorem Ai (label:Int)(u:0<=label)(S:UO)(w:World)(a:UP)(len cap:Nat)(l:List Int)(y:len=l.length)(h:gZ.rel S w [.slice a len cap] l)(j:l.length<=1000000):
 Calls prog 101 #[U2 18446744069414584321,label,.slice a len cap] w (Rt w (U2 (iD label l))):=by
 subst y;exact oy label u S w a cap l h j
theorem yy (S:UO)(w:World)(label:Int)(l0:0<=label)(a:UP)(len cap:Nat)(l:List Int)(K:len=l.length)(h:gZ.rel S w [.slice a len cap] l)(aq:l.length<=1000):
 Calls prog 283 #[label,.slice a len cap] w (Rt w (U2 (iD label l))):=by
 subst K;have G:=jc w (.cells #[] 24);have ab:=Hd (Own.mono (Own.empty ib w.heap.size 24 (gY w (.cells #[] 24)) (g9 _)) (F':=λx=>False\/w.heap.size<=x) λx _ h=> .inr UN);obtain⟨H,Y,ad⟩:=kT h G (Hh label l);clear h G;go_wp2;go_loopw [5,6] (λvx y wr=> ∃k:Nat,k<=l.length/\y= UZ k/\Own ib w.heap.size 24 (λx=>False\/w.heap.size<=x) wr vx ((l.map mz).take k)/\BW w wr) (λ_ y _=>l.length-(intOf y).toNat)
 case atStart=>exact⟨0,iy _,rfl,ab.o,Y.o⟩
 case round=>
  obtain⟨k,ap,rfl,V,u⟩:=hrel;have z:=Hd V;have aj:=u.size;clear V;by_cases hlt:k<l.length
  ·obtain⟨b,off,rfl,al,av,n1,ao⟩:=il (gZ.c' H.o u) k hlt
   have af:Hi ((l.map mz).take (k+1)=(l.map mz).take k++ [mz l[k]]):=Hd (by rw [z4 (by simpa using hlt),Ul]);have K:((l.map mz).take k).length=k:=(by simp;omega);have hr:=oE l[k];have ai:Hi (l[k] % 18446744069414584321=mz l[k]):=rfl;generalize l[k]=m at*
   have ag:Hi (ib.rel (λ_=>False) wr [(mz m)] (mz m)):=⟨rfl,ir hr.1 UN⟩;have ar:(0:Int)<=(k:Int):=UN;have au:(k:Int)<(l.length:Int):=UN;go_wp2_with (at_builtin;rw [ai.o];refine km (r:=ib) (wr:=wr) (es:= [U2 (mz m)]) (w0:=w) (B:=w.heap.size) rfl _ _ rfl iX rfl rfl u aj z.o ag.o (λx ak=>ak.elim) (by unfold maxLen;omega) UN ?_)
   intro v2 aw U hb3;have ah:=Hd (Own.mono U (F':=λx=>False\/w.heap.size<=x) λx _ h=>by first|exact h|exact .inr h)
   clear U;go_wp2;go_roundw
   case rel=>exact⟨k+1,UN,by go_num,by rw [af.o];exact ah.o,hb3⟩
   case measure=>exact UY
  ·obtain rfl:k=l.length:=UN
   have j:=z.o.slice;rw [TK US]at j;obtain⟨a2,c2,rfl, -⟩:=g4.form j;rw [TC]at j;have ae:=Hd j;clear j;rw [TC];go_wp2_with fail;refine UR (Ai label l0 _ wr _ l.length _ (l.map mz) US ae.o (by simp;omega)) λw1 hb1=> ?_;rw [ad.o];go_wp2;go_ret;exact⟨rfl,d' u hb1⟩
theorem uQ (w:World)(x:Int)(j:iZ x):Calls prog 197 #[x] w (Rt w (U2 (iD 7 [x]))):=by
 have u:=Hd (Il w 24 j);clear j;go_in;go_wp2_with fail;refine UR (yy (λ_=>True) _ 7 UN _ 1 1 [x] rfl u.o US) λw1 y=> ?_;go_wp2;go_ret;exact⟨rfl,d' (hd (g' _ _) _) y⟩
theorem yv (w:World)(key n:Int)(K:iZ key):Calls prog 276 #[key,UZ n] w (Rt w (U2 (kN key n))):=by
 by_cases j:0<=n/\n<4
 ·have y:Hi (kN key n=iD 1 [key,n]):=by show _=_;unfold kN;rw [g7 j]
  have u:=Hd (iP j);have U:=j.1;have Y:=j.2;have hw:IntKind.u64.wrap n=n:=(by rw [jP];omega);have V:iZ n:=ir U UN;clear j;go_in;go_wp2_with fail;refine UR (yF w n) λw1 hb1=> ?_;rw [u.o];have z:=Hd (tD w1 24 K V);go_wp2_with fail;refine UR (yy (λ_=>True) _ 1 UN _ 2 2 [key,n] rfl z.o US) λw2 G=> ?_;go_wp2;go_ret;exact⟨g2 y.o.symm,d' (hd hb1 _) G⟩
 ·have y:Hi (kN key n=0):=by show _=_;unfold kN;rw [g3 j]
  have u:=Hd (iH j);clear j;go_in;go_wp2_with fail;refine UR (yF w n) λw1 hb1=> ?_;rw [u.o];go_wp2;go_ret;exact⟨g2 y.o.symm,hb1⟩
theorem rZ (w:World)(n:jZ)(K:nU n):Calls prog 196 #[.agg ri,.agg #[n.value,n.owner,n.jr,n.blind]] w
 (Rt w (.tuple #[(ip n),(ja n)])):=by
 have z:=jc w (.cells ri 36);have G:=hd z (.cells #[n.value,n.owner,n.jr,n.blind] 260);have V:=iq (o':= .cells #[n.value,n.owner,n.jr,n.blind] 260) (gY w (.cells ri 36));have qB:=gY (w.alloc (.cells ri 36)) (.cells #[n.value,n.owner,n.jr,n.blind] 260);have y:(w.alloc (.cells ri 36)).heap.size=w.heap.size+1:=U4 ..;rw [y]at qB;obtain⟨Y,ad,ab,u⟩:=oX V qB G K;clear z G V qB y K;go_in;go_wp2_with fail;generalize (w.alloc (.cells ri 36)).alloc (.cells #[n.value,n.owner,n.jr,n.blind] 260)=W at*
 refine UR (n7 W n u.o) λw1 hb1=> ?_;obtain⟨ag,ah⟩:=a' (b' hb1 ad.o);obtain⟨ai,aj⟩:=a' (b' hb1 Y.o);have U:=d' ab.o hb1
 cases j:ja n with
 |false=>
  have af:Hi (ip n=0):=Hd (by unfold ip;rw [j];rfl);go_wp2;go_ret2;rw [af.o,j];exact⟨rfl,U⟩
 |true=>
  have ae:=Hd j;clear j;go_wp2_with fail;refine UR (Dv w1 n u.o) λw2 hb2=> ?_;go_wp2;go_ret2;rw [ae.o];exact⟨rfl,d' U hb2⟩
theorem DA (w:World)(key jr:Int)(y:iZ key)(hr:iZ jr):Calls prog 277 #[.agg ri,key,jr] w
 (Rt w (.tuple #[(k8 key jr),true])):=by
 have j:=jc w (.cells ri 36);have u:=Hd j;clear j;go_in;go_wp2_with fail;refine UR (GN _ key jr y hr) λw1 hb1=> ?_;go_wp2;go_ret2;exact⟨rfl,d' u.o hb1⟩
theorem CI (w:World)(pos:Int)(k:Nat)(p0:0<=pos)(_p1:pos<=4095)(j:k<=12):Calls prog 358 #[UZ pos,UZ k] w (Rt w (UZ (pos / 2^k % 2))):=by
 go_wp2;go_ret;exact⟨g2 (Ik (Int.ediv_nonneg p0 (sn (Int.pow_pos UN)))),g' _ _⟩
theorem Gq (n:Nat)(h:n<4096):bits BinOp.and IntKind.i64 (n:Int) 1=((n % 2:Nat):Int):=by
 have: ∀(i j:Fin 64),bits BinOp.and IntKind.i64 ((64*i.val+j.val:Nat):Int) 1=(((64*i.val+j.val) % 2:Nat):Int):=by decide+kernel
 have h2:=this ⟨n / 64,UN⟩ ⟨n % 64,UN⟩;rw [show 64*(n / 64)+n % 64=n by omega]at h2;exact h2
theorem DV (j pos:Int)(path:List Int)(p0:0<=pos)(p1:pos<=4095)(k:Nat):
 ku j pos path (k+1)=if (pos / 2^k % 2==1)=true then iD 6 [path.getD k 0,ku j pos path k]else iD 6 [ku j pos path k,path.getD k 0]:=by
 have u:0<=pos / 2^k:=Int.ediv_nonneg p0 (sn (Int.pow_pos UN));have h1:pos / 2^k<=4095:=zQ (Int.ediv_le_self _ p0) p1;obtain⟨m,z⟩:=lv u;show(if (bits BinOp.and IntKind.i64 (pos / 2^k) 1==0)=true then _ else _)=_;rw [z]at h1⊢;rw [Gq m UN];by_cases y:m % 2=0
 ·rw [y,g7 (show(((0:Nat):Int)==0)=true from rfl),g3]
  rw [iO];omega
 ·have:m % 2=1:=UN
  rw [this,g3 (show¬(((1:Nat):Int)==0)=true by decide),g7];rw [iO];omega
theorem EQ (S:UO)(w:World)(j pos:Int)(ae:iZ j)(a:UP)(cap:Nat)(path:List Int)(h:gZ.rel S w [.slice a path.length cap] path)(aA:path.length<=12)(p0:0<=pos)(p1:pos<=4095):
 Calls prog 278 #[j,UZ pos,.slice a path.length cap] w (Rt w (U2 (jo j pos path))):=by
 obtain⟨H,ar⟩:=ik h ae;obtain⟨l0,l1⟩:=iE ae;clear h ae;obtain⟨av,aw,ax⟩:=pL ⟨path.length,UN⟩;simp only at av aw ax;have aF: ¬(12:Int)<(path.length:Int):=by omega
 by_cases ap:pos<2^path.length
 ·by_cases ao:j<18446744069414584321
  ·have HC:Hi (jo j pos path=if h' path=true then ku j pos path path.length else 0):=by
    show _=_;unfold jo;by_cases U:h' path=true
    ·rw [g7 ⟨aA,p0,ap,ao,U⟩,g7 U]
    ·rw [g3 (λh=>U h.2.2.2.2),g3 U]
   generalize ak:(2:Int)^path.length=aj at*
   go_in;go_wp2_with fail;go_loop [7] (λi=> ∃k:Nat,k<=path.length/\i= UZ k/\Hi (jv (λk=>jC (path.getD k 0)) k=true)) (λi=>path.length-(intOf i).toNat)
   case atStart=>exact⟨0,iy _,rfl,rfl⟩
   case round=>
    obtain⟨k,az,rfl,Y⟩:=hrel;by_cases hlt:k<path.length
    ·obtain⟨b,off,rfl,ab,af,n1,z⟩:=il H.o k hlt
     have G:=Hd (getD_at path 0 k hlt);have aC:(0:Int)<=(k:Int):=UN;have aD:(k:Int)<(path.length:Int):=UN;generalize path[k]=n at*
     by_cases aq:n<18446744069414584321
     ·have au:Hi (jv (λk=>jC (path.getD k 0)) (k+1)=true):=lg Y.o (by rw [G.o];exact iP aq)
      go_wp2_with fail;go_round
      case rel=>exact⟨k+1,UN,by go_num,au⟩
      case measure=>exact UY
     ·have u:Hi (jo j pos path=0):=by
       show _=_;have:h' path=false:=jp (k:=k) (by rw [G.o];exact iH aq) hlt;rw [HC.o,this];rfl
      go_wp2;go_ret;exact⟨g2 u.o.symm,g' _ _⟩
    ·obtain rfl:k=path.length:=UN
     have u:Hi (jo j pos path=ku j pos path path.length):=by
      show _=_;have:h' path=true:=Y.o;rw [HC.o,this];rfl
     clear Y HC;go_wp2;go_loopw [8,9] (λaE ag wr=> ∃k:Nat,k<=path.length/\ag= UZ k/\aE= U2 (ku j pos path k)/\BW w wr) (λ_ ag _=>path.length-(intOf ag).toNat)
     case atStart=>exact⟨0,iy _,rfl,rfl,g' _ _⟩
     case round=>
      obtain⟨k,az,rfl,rfl,K⟩:=hrel;by_cases hlt:k<path.length
      ·obtain⟨b,off,rfl,ab,af,n1,z⟩:=il (gZ.c' H.o K) k hlt
       obtain⟨G,ah,ai⟩:=kT (getD_at path 0 k hlt) (yV (pos:=pos) (path:=path) ar.o k) (DV j pos path p0 p1 k);have aC:(0:Int)<=(k:Int):=UN;have aD:(k:Int)<(path.length:Int):=UN;generalize path[k]=n at*;generalize ku j pos path k=d at*
       cases al:(pos / 2^k % 2==1)with
       |false=>
        have V:Hi (ku j pos path (k+1)=iD 6 [d,n]):=Hd (by rw [ai.o,al,G.o];rfl);go_wp2_with fail;refine UR (CI wr pos k p0 p1 UN) λwb y=> ?_;have ad:=d' K y;have ay:=(y.cell (p:=⟨b,off+k,none⟩) ab).trans z;clear z;go_wp2_with fail;refine UR (tu wb d n ah.o (ir af n1)) λw1 hb1=> ?_;go_wp2;go_roundw
        case rel=>exact⟨k+1,UN,by go_num,by rw [V.o],d' ad hb1⟩
        case measure=>exact UY
       |true=>
        have V:Hi (ku j pos path (k+1)=iD 6 [n,d]):=Hd (by rw [ai.o,al,G.o];rfl);go_wp2_with fail;refine UR (CI wr pos k p0 p1 UN) λwb y=> ?_;have ad:=d' K y;have ay:=(y.cell (p:=⟨b,off+k,none⟩) ab).trans z;clear z;go_wp2_with fail;refine UR (tu wb n d (ir af n1) ah.o) λw1 hb1=> ?_;go_wp2;go_roundw
        case rel=>exact⟨k+1,UN,by go_num,by rw [V.o],d' ad hb1⟩
        case measure=>exact UY
      ·obtain rfl:k=path.length:=UN
       go_wp2;go_ret;exact⟨g2 u.o.symm,K⟩
  ·have u:Hi (jo j pos path=0):=by show _=_;unfold jo;rw [g3 (λh=>ao h.2.2.2.1)]
   generalize ak:(2:Int)^path.length=aj at*
   go_wp2;go_ret;exact⟨g2 u.o.symm,g' _ _⟩
 ·have u:Hi (jo j pos path=0):=by show _=_;unfold jo;rw [g3 (λh=>ap h.2.2.1)]
  generalize ak:(2:Int)^path.length=aj at*
  go_wp2;go_ret;exact⟨g2 u.o.symm,g' _ _⟩
end Go.Proofs.YtjdiofjjoefnhaaGreatDoor
