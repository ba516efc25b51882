/- The wire's writers: what they append. -/
import Derived.Test.YtjdiofjjoefnhaaGreatDoorMFld
import Derived.Deep.Cut
import Derived.Deep.CutRange
set_option maxRecDepth 100000
set_option maxHeartbeats 8000000
namespace Go.Proofs.YtjdiofjjoefnhaaGreatDoor
open Tryz Go.ChangeShapes Go.WideShapes Go.ChangeAt Go.RowKit
theorem sE (S:UO)(w:World)(a:UP)(cap:Nat)(xs:List Int)(h:hD.rel S w [.slice a xs.length cap] xs)(n:Nat)(ak:xs.length+n<=1000000000):
 Calls prog 93 #[.slice a xs.length cap,UZ n] w (lJ w.heap.size w xs):=by
 have al:xs.length<=1000000000:=UN
 have H:=Hd h;clear h;obtain⟨cs,z⟩: ∃cs,cs=xs.map (Value.int .u8):=⟨_,rfl⟩;have HC:=Hd z;have U:cs.length=xs.length:=by rw [z];simp
 have u:=Hd U;clear z U;go_in;go_wp2_with (at_make;refine m5 rfl _ _ rfl iU (n:=xs.length) (m:=xs.length+n) rfl rfl ?_ ?_ ?_ ?_ ?_ ?_)
 ·go_num
 ·go_num
 ·omega
 ·omega
 ·unfold maxLen;omega
 intro cur V w1 Y hb1 ao;obtain⟨ad,y⟩:=ik Y V;clear Y V;go_wp2_with (refine wpList_copy_splice rfl (.tmp 13) (.tmp 14) 52 52 rfl 5 underlying52 UQ _ _ _ _ _ _ rfl rfl w.heap.size 0 cur 5 ad.o cs ?_ ?_ ?_ ?_ w.heap.size w hb1 (g9 _) ?_)
 ·rw [u.o];simp
 ·intro K
  rw [u.o]at K;obtain⟨G,af,ag⟩:=E' (hD.c' H.o hb1) K;have ah: ∀j v,cs[j]? =some v->w1.cell? (G.add j)=some v:=λj v aj=>ag j v (by rw [<-HC.o];exact aj);exact⟨G,af,ah⟩
 ·rw [u.o,y.o];omega
 ·intro v ab
  rw [HC.o]at ab;obtain⟨x, -,rfl⟩:=List.mem_map.1 ab;rfl
 intro w2 ae hb2;have ai:Own ve w.heap.size 5 (λx=>False\/w.heap.size<=x) w2 (.slice (some ⟨w.heap.size,0,none⟩) xs.length (xs.length+n)) xs:=by
  refine nr ae.out ?_ ?_ (mN H.o) UN (by unfold maxLen;omega) (g9 _)
  ·rw [length_splice _ _ _ (by rw [u.o,y.o];omega),y.o]
  ·unfold splice
   rw [U6,TB,<-HC.o];exact UH u.o
 go_wp2;go_ret;exact⟨_,rfl,ai,hb2⟩
abbrev t0 (ys:List Int)(w:World):Ending->World->Prop:=lP ve (λ_=>True) ys w
theorem lJ.gives {B:Nat}{w w':World}{ys:List Int}{e:Ending}(j:B=w.heap.size)(h:lJ B w ys e w'):t0 ys w e w':=by
 subst j;obtain⟨v,rfl,y,u⟩:=h;exact lP.mk (hD.mono y.slice λ_ _ _=>trivial) u
theorem oC (w0 w:World) (B:Nat) (u:Below B w0 w) (j:B<=w0.heap.size) (v:Value) (xs:List Int) (G:Own ve B 5 (λx=>False\/B<=x) w v xs) (n:Nat) (U:n<=4294967295)
 (z:xs.length<=1000000000):Calls prog 92 #[v,UZ n] w (lJ B w0 (xs++hN 4 n)):=by
 go_in;go_wp2_with fail;refine(oD w0 w B u j v xs G n UN UN 4 UN z).mono ?_;rintro e w1⟨v',rfl,K,y⟩;go_wp2;go_ret;exact⟨v',rfl,K,y⟩
theorem yq (S:UO)(w:World)(a:UP)(cap:Nat)(xs:List Int)(h:hD.rel S w [.slice a xs.length cap] xs)(n:Int)(G:0<=n)(n1:n<18446744073709551616)(K:xs.length<=100000000):
 Calls prog 46 #[.slice a xs.length cap,n] w (t0 (xs++hN 8 n) w):=by
 go_in;go_wp2_with fail;refine(sE S w a cap xs h 8 UN).mono ?_;rintro e w1⟨v,rfl,z,y⟩;go_wp2_with fail;refine(oD w w1 w.heap.size y (g9 _) v xs z n G n1 8 UN UN).mono ?_;intro e w2 j;have u:=Hd (lJ.gives rfl j);obtain⟨v',rfl, -, -⟩:=j;go_wp2;go_ret;exact u.o
theorem Bq (S:UO)(w:World)(a:UP)(cap:Nat)(xs:List Int)(h:hD.rel S w [.slice a xs.length cap] xs)(n:Nat)(n1:n<=4294967295)(G:xs.length<=100000000):
 Calls prog 43 #[.slice a xs.length cap,UZ n] w (t0 (xs++hN 4 n) w):=by
 go_in;go_wp2_with fail;refine(sE S w a cap xs h 4 UN).mono ?_;rintro e w1⟨v,rfl,z,y⟩;go_wp2_with fail;refine(oC w w1 w.heap.size y (g9 _) v xs z n n1 UN).mono ?_;intro e w2 j;have u:=Hd (lJ.gives rfl j);obtain⟨v',rfl, -, -⟩:=j;go_wp2;go_ret;exact u.o
def ix:List Int->List Int
 | []=> []
 |n::l=>hN 8 n++ix l
theorem jV: ∀l,(ix l).length=8*l.length
 | []=>rfl
 |n::l=>by simp [ix,hA,jV l];omega
theorem n6: ∀(l:List Int) (n:Int),ix (l++ [n])=ix l++hN 8 n
 | [],n=>by simp [ix]
 |x::l,n=>by simp [ix,n6 l n]
theorem yr (S S':UO)(w:World)(a:UP)(cap:Nat)(xs:List Int)(h:hD.rel S w [.slice a xs.length cap] xs)(la:UP)(lc:Nat)(l:List Int)(z:gZ.rel S' w [.slice la l.length lc] l)(ao:xs.length<=100000000)(al:l.length<=10000000):
 Calls prog 44 #[.slice a xs.length cap,.slice la l.length lc] w (t0 (xs++hN 4 l.length++ix l) w):=by
 have V:=Hd z;clear z;go_in;go_wp2_with fail;refine(sE S w a cap xs h (4+8*l.length) UN).mono ?_;rintro e w1⟨v,rfl,G,ad⟩;go_wp2_with fail;refine(oC w w1 w.heap.size ad (g9 _) v xs G l.length UN UN).mono ?_;rintro e w2⟨v2,rfl,K,hb2⟩;have Y:=Hd K;clear G K;go_wp2;go_loopw [5,19] (λah y wr=> ∃k:Nat,k<=l.length/\y= UZ k/\Own ve w.heap.size 5 (λx=>False\/w.heap.size<=x) wr ah (xs++hN 4 l.length++ix (l.take k))/\BW w wr) (λ_ y _=>l.length-(intOf y).toNat)
 case atStart=>exact⟨0,iy _,rfl,by simpa [ix]using Y.o,hb2⟩
 case round=>
  obtain⟨k,ak,rfl,u,j⟩:=hrel;by_cases hlt:k<l.length
  ·obtain⟨b,off,rfl,ai,ag,n1,aj⟩:=il (gZ.c' V.o j) k hlt
   have ab:Hi (xs++hN 4 l.length++ix (l.take (k+1))=(xs++hN 4 l.length++ix (l.take k))++hN 8 l[k]):=by
    show _=_;rw [z4 hlt,n6];simp only [Tt]
   have ae:(xs++hN 4 l.length++ix (l.take k)).length<=1000000000:=by
    simp only [U3,hA,jV,Tq];omega
   generalize l[k]=n at*;generalize xs++hN 4 l.length++ix (l.take k)=ys at*;go_wp2_with fail;refine(oD w wr w.heap.size j (g9 _) _ ys u n ag n1 8 UN ae).mono ?_;rintro e aq⟨ap,rfl,af,hb3⟩;go_wp2;go_roundw
   case rel=>exact⟨k+1,UN,by go_num,by rw [ab.o];exact af,hb3⟩
   case measure=>exact UY
  ·obtain rfl:k=l.length:=UN
   rw [Sw]at u;have U:=Hd (lP.mk (hD.mono u.slice λ_ _ _=>trivial) j);go_wp2;go_ret;exact U.o
theorem AO (S S':UO)(w:World)(a:UP)(cap:Nat)(xs:List Int)(h:hD.rel S w [.slice a xs.length cap] xs)(la:UP)(lc:Nat)(l:List Int)(u:hD.rel S' w [.slice la l.length lc] l)(ah:xs.length<=100000000)(af:l.length<=10000000):
 Calls prog 268 #[.slice a xs.length cap,.slice la l.length lc] w (t0 (xs++(hN 4 l.length++l)) w):=by
 have U:=Hd u;clear u;go_in;go_wp2_with fail;refine(sE S w a cap xs h (4+l.length) UN).mono ?_;rintro e w1⟨v,rfl,y,Y⟩;go_wp2_with fail;refine(oC w w1 w.heap.size Y (g9 _) v xs y l.length UN UN).mono ?_;rintro e w2⟨v2,rfl,z,hb2⟩;have j:=Hd z;have V:=Hd (Src.plain (S':=λ_=>False) (Plain.int .u8) (Src.of_slice (hD.c' U.o hb2)));have ag:(xs++hN 4 l.length).length+l.length<=1000000000:=by simp only [U3,hA];omega
 clear y z;go_wp2_with (at_builtin;refine iC (r:=ve) (base:=w.heap.size) rfl _ _ rfl iU rfl rfl j.o V.o (λ_ _ h=>h.elim) (λ_ _ h=>h) (by unfold maxLen;omega) UN hb2.size ?_)
 intro ai ad G ab _;have hb3:BW w ad:=Kept.behind hb2 ab hb2.size λk ae h=>by have:=(j.o.lt h).2.2;omega
 have K:=Hd (lP.mk (hD.mono G.slice λ_ _ _=>trivial) hb3);clear G;go_wp2;go_ret;exact K.o
structure i5 where
 bytes:List Int
 pos:Nat
 failed:Bool
def nl (p:Nat)(w:World)(r:i5):Prop:=
 ∃a cap,w.heap[p]? =some (.cells #[.slice a r.bytes.length cap,UZ r.pos,r.failed] 371 (0,0))/\hD.rel (λk=>k<p) w [.slice a r.bytes.length cap] r.bytes/\r.pos<=r.bytes.length/\r.bytes.length<=1000000
theorem nl.keep {p:Nat}{w w':World}{r:i5}(h:nl p w r)(j:BW w w'):nl p w' r:=by
 obtain⟨a,cap,h1,h2,u⟩:=h;exact⟨a,cap,b' j h1,hD.c' h2 j,u⟩
theorem nl.kept {p:Nat}{w w':World}{r:i5}(h:nl p w r)(j:Kept (λk=>k<=p) w w'):nl p w' r:=by
 obtain⟨a,cap,h1,h2,u⟩:=h;exact⟨a,cap,hE j h1 (g9 _),hD.keep h2 (j.mono λk _ h=>Nat.le_of_lt h),u⟩
def nN (p:Nat)(w:World)(r:i5)(w':World):Prop:=nl p w' r/\Kept (λk=>k≠p) w w'
theorem lu {S:UO}{a b c:World}(h:Kept S a b)(k:Kept S b c):Kept S a c:=h.trans k λ_ _ h=>h
theorem nN.next {p:Nat}{w w1 w2:World}{r j:i5}(h:nN p w r w1)(k:nN p w1 j w2):nN p w j w2:=⟨k.1,lu h.2 k.2⟩
theorem zA (S:UO)(w:World)(a:UP)(cap:Nat)(xs:List Int)(h:hD.rel S w [.slice a xs.length cap] xs)(ab:xs.length<=1000000):
 Calls prog 163 #[.slice a xs.length cap] w λe w'=> ∃p,e= .returned (.pointer (some ⟨p,0,none⟩))/\w.heap.size<=p/\nl p w' ⟨xs,0,false⟩/\BW w w':=by
 go_in;go_wp2_with fail;refine(sE S w a cap xs h 0 UN).mono ?_;rintro e w1⟨v,rfl,K,G⟩;have u:=K.slice;obtain⟨j,c1,rfl, -⟩:=g4.form u;obtain⟨y,V,U,z⟩:=oX (jc w1 (.cells #[.slice j xs.length c1,I0,false] 371)) (gY w1 (.cells #[.slice j xs.length c1,I0,false] 371)) (hD.bound u) G;clear K u G;go_wp2;go_ret;refine⟨w1.heap.size,US,z.o.size,⟨j,c1,V.o,?_,iy _,ab⟩,d' z.o y.o⟩;exact hD.mono (hD.c' U.o y.o) λk _ Y=>Y.2
def i5.fail (r:i5):i5:=⟨r.bytes,r.pos,true⟩
def i5.to (r:i5)(n:Nat):i5:=⟨r.bytes,r.pos+n,r.failed⟩
def i5.bad (r:i5)(size:Nat):Bool:=r.failed||decide (r.bytes.length<r.pos+size)
def i5.num (r:i5)(size:Nat):Int:=nh ((r.bytes.drop r.pos).take size)
theorem CX (w:World)(p:Nat)(r:i5)(h:nl p w r):Calls prog 256 #[.pointer (some ⟨p,0,none⟩)] w (Rt w (UZ (r.bytes.length-r.pos:Nat))):=by
 obtain⟨a,cap,h1,h2,j,u⟩:=h;obtain⟨c0,c1⟩:=a' h1;clear h1 h2;go_in;go_wp2_with fail;go_quiet (fail);go_wp2;go_ret;exact⟨g2 UN,ny (g' _ _) _⟩
theorem i5.Jn (r:i5)(k:Nat)(h:r.pos+k<r.bytes.length):r.num (k+1)=r.num k+r.bytes[r.pos+k]*256^k:=by
 unfold i5.num;have j:k<(r.bytes.drop r.pos).length:=by rw [Ts];omega
 rw [z4 j,uF,Tq,sq UN,Ug]
theorem i5.Iv {r:i5}(j: ∀d∈r.bytes,0<=d/\d<256)(k:Nat)(h:r.pos+k<=r.bytes.length):0<=r.num k/\r.num k<256^k:=by
 have:=qx ((r.bytes.drop r.pos).take k) λd u=>j d (TQ (TV u))
 rwa [Tq,Ts,sq UN]at this
theorem nl.fail {p:Nat}{w:World}{r:i5}(h:nl p w r):nN p w r.fail (w.setCell ⟨p,2,none⟩ (.bool true)):=by
 obtain⟨a,cap,h1,h2,u⟩:=h;have j:Kept (λk=>k≠p) w (w.setCell ⟨p,2,none⟩ (.bool true)):=(Kept.refl _ _).setCell (λ_ h=>h rfl) _;exact⟨⟨a,cap,h6 h1,hD.keep h2 (j.mono λk _ h=>Nat.ne_of_lt h),u⟩,j⟩
theorem nl.to {p:Nat}{w:World}{r:i5}(h:nl p w r)(n:Nat)(y:r.pos+n<=r.bytes.length):nN p w (r.to n) (w.setCell ⟨p,1,none⟩ (UZ (r.pos+n:Nat))):=by
 obtain⟨a,cap,h1,h2,z,u⟩:=h;have j:Kept (λk=>k≠p) w (w.setCell ⟨p,1,none⟩ (UZ (r.pos+n:Nat))):=(Kept.refl _ _).setCell (λ_ h=>h rfl) _;exact⟨⟨a,cap,h6 h1,hD.keep h2 (j.mono λk _ h=>Nat.ne_of_lt h),y,u⟩,j⟩
theorem nN.of {p:Nat}{w w1 w2:World}{r:i5}(j:BW w w1)(h:nN p w1 r w2):nN p w r w2:=⟨h.1,lu (Kept.of_below j) h.2⟩
theorem nl.drewN {p:Nat}{w:World}{r:i5}(h:nl p w r)(d:Nat):nl p (w.drewN d) r:=h.keep (ny (g' _ _) d)
theorem Bd {m x:Int}(k:Nat)(af:k<8)(ab:0<=m)(m1:m<256^k)(ad:0<=x)(ag:x<256):bits BinOp.or IntKind.u64 m (IntKind.u64.wrap (x*2^(8*k)))=m+x*256^k:=by
 obtain⟨M,rfl⟩:=lv ab;obtain⟨X,rfl⟩:=lv ad;have e:(256:Int)^k=((2^(8*k):Nat):Int):=by
  rw [Nat.pow_mul,Int.natCast_pow];rfl
 have u:(2:Int)^(8*k)=((2^(8*k):Nat):Int):=by rw [Int.natCast_pow];rfl
 rw [e]at m1⊢;rw [u];have G:M<2^(8*k):=Int.ofNat_lt.1 m1;have Y:2^(8*k)<=2^56:=uq UN UN;have U:X<=255:=UN
 have ae:=Nat.mul_le_mul Y U;have z:=Nat.two_pow_add_eq_or_of_lt G X;have y:(X:Int)*((2^(8*k):Nat):Int)=((2^(8*k)*X:Nat):Int):=by rw [Int.natCast_mul,Int.mul_comm]
 rw [y];generalize 2^(8*k)*X=j at*
 have V:j<18446744073709551616:=UN
 have K:M<18446744073709551616:=UN
 rw [jP,Int.emod_eq_of_lt UN UN,bits_or_u64_nat M j K V,Nat.or_comm,<-z];omega
def i5.nK (r:i5)(size:Nat):Int×Bool×i5:=if r.bad size=true then (0,false,r.fail)else (r.num size,true,r.to size)
theorem ua (w:World)(p:Nat)(r:i5)(h:nl p w r)(size:Nat)(aw:size<=8):
 Calls prog 255 #[.pointer (some ⟨p,0,none⟩),UZ size] w λe w'=>e= .returned (.tuple #[U2 (r.nK size).1,.bool (r.nK size).2.1])/\nN p w (r.nK size).2.2 w':=by
 have H:=Hd h;obtain⟨a,cap,h1,h2,al,ao⟩:=h;obtain⟨c0,c1⟩:=a' h1;have ai:=Hd h2;clear h1 h2
 cases j:r.failed with
 |true=>
  have u:Hi (r.nK size=(0,false,r.fail)):=by
   show _=_;unfold i5.nK i5.bad;rw [j];rfl
  rw [j]at c0;have y:=Hd H.o.fail;go_wp2;go_ret2;rw [u.o];exact⟨rfl,y.o⟩
 |false=>
  rw [j]at c0;go_in;go_wp2_with fail;refine UR (CX w p r H.o) λw1 hb1=> ?_;have ab:=H.o.keep hb1;have K:=Hd ab;obtain⟨aj,ak,q1,q2,ax,ay⟩:=ab;clear c0 c1;obtain⟨c0,c1⟩:=a' q1;rw [j]at c0;have G:=Hd q2;clear q1 q2;by_cases hlt:r.bytes.length-r.pos<size
  ·have u:Hi (r.nK size=(0,false,r.fail)):=by
    show _=_;unfold i5.nK i5.bad;rw [j,iP UN];rfl
   have y:=Hd (nN.of hb1 K.o.fail);go_wp2;go_ret2;rw [u.o];exact⟨rfl,y.o⟩
  ·have u:Hi (r.nK size=(r.num size,true,r.to size)):=by
    show _=_;unfold i5.nK i5.bad;rw [j,iH UN];rfl
   have ag:r.pos+size<=r.bytes.length:=UN;have U: ∀d∈r.bytes,0<=d/\d<256:=λd af=>Em (mN G.o d af);have ad:=Hd U;clear U;go_wp2;go_loopw [6,22] (λah z wr=> ∃k:Nat,k<=size/\z= UZ k/\ah= U2 (r.num k)/\ ∃d,wr=w1.drewN d) (λ_ z _=>size-(intOf z).toNat)
   case atStart=>exact⟨0,iy _,rfl,by simp [i5.num,nh],0,rfl⟩
   case round=>
    obtain⟨k,au,rfl,rfl,d,rfl⟩:=hrel;by_cases av:k<size
    ·have Y:r.pos+k<r.bytes.length:=UN
     obtain⟨b,off,rfl,ap,aq,d0,d1,ar⟩:=bytes_at G.o (r.pos+k) Y;have V:=i5.Iv ad.o k UN;have ae:=Hd (r.Jn k Y);generalize r.bytes[r.pos+k]=x at*;generalize r.num k=m at*;go_wp2_with fail;go_quiet (fail);go_wp2;go_roundw
     case rel=>
      refine⟨k+1,UN,by go_num,?_,?_⟩
      ·rw [ae.o]
       rw [Bd k UN V.1 V.2 d0 d1]
      ·exact⟨d+nq,rfl⟩
     case measure=>exact UY
    ·obtain rfl:k=size:=UN
     have y:=Hd (nN.of (ny hb1 d) (nl.to (nl.drewN K.o d) k ag));go_wp2;go_ret2;rw [u.o];exact⟨rfl,y.o⟩
theorem nl.Sm {p:Nat}{w:World}{r:i5}(h:nl p w r): ∀d∈r.bytes,0<=d/\d<256:=by
 obtain⟨a,cap,h1,h2,u⟩:=h;exact λd j=>Em (mN h2 d j)
theorem nl.Er {p:Nat}{w:World}{r:i5}(h:nl p w r)(size:Nat):0<=(r.nK size).1/\(r.nK size).1<256^size:=by
 unfold i5.nK;split
 ·exact⟨vS _,Int.pow_pos UN⟩
 ·rename_i j
  refine i5.Iv h.Sm size ?_;unfold i5.bad at j;simp at j;omega
def i5.uint (r:i5)(most:Int):Int×i5:=if (r.nK 8).2.1=false\/most<(r.nK 8).1 then (0,(r.nK 8).2.2.fail)else ((r.nK 8).1,(r.nK 8).2.2)
def i5.int (r:i5)(most:Int):Int×i5:=if (r.nK 4).2.1=false\/most<(r.nK 4).1 then (0,(r.nK 4).2.2.fail)else ((r.nK 4).1,(r.nK 4).2.2)
theorem oB (w:World)(p:Nat)(r:i5)(h:nl p w r)(most:Int)(K:0<=most):
 Calls prog 166 #[.pointer (some ⟨p,0,none⟩),most] w λe w'=>e= .returned (U2 (r.uint most).1)/\nN p w (r.uint most).2 w'/\0<=(r.uint most).1/\(r.uint most).1<=most:=by
 have G:=h.Er 8;have j:Hi (r.uint most=if (r.nK 8).2.1=false\/most<(r.nK 8).1 then (0,(r.nK 8).2.2.fail)else ((r.nK 8).1,(r.nK 8).2.2)):=rfl;go_in;go_wp2_with fail;refine UR (ua w p r h 8 UN) λw1 hr=> ?_;generalize r.nK 8=t at*;obtain⟨n,ok,y⟩:=t;simp only at G hr j⊢;obtain⟨U,z⟩:=ik hr (nN.next hr hr.1.fail);obtain⟨a,cap,h1, -⟩:=hr.1;obtain⟨c0,c1⟩:=a' h1;clear h1 hr h
 cases ok with
 |false=>
  have u:Hi (r.uint most=(0,y.fail)):=Hd (by rw [j.o,g7 (.inl rfl)]);clear j;go_wp2;go_ret;rw [u.o];exact⟨rfl,z.o,vS _,K⟩
 |true=>
  by_cases hlt:most<n
  ·have u:Hi (r.uint most=(0,y.fail)):=by show _=_;rw [j.o,g7 (.inr hlt)]
   clear j;go_wp2;go_ret;rw [u.o];exact⟨rfl,z.o,vS _,K⟩
  ·have u:Hi (r.uint most=(n,y)):=by show _=_;rw [j.o,g3 (λh=>h.elim (λh=>by cases h) hlt)]
   clear j;go_wp2;go_ret;rw [u.o];exact⟨rfl,U.o,G.1,UN⟩
theorem pD (w:World)(p:Nat)(r:i5)(h:nl p w r)(most:Int)(K:0<=most)(_m1:most<=4294967295):
 Calls prog 164 #[.pointer (some ⟨p,0,none⟩),UZ most] w λe w'=>e= .returned (UZ (r.int most).1)/\nN p w (r.int most).2 w'/\0<=(r.int most).1/\(r.int most).1<=most:=by
 have y:=h.Er 4;have j:Hi (r.int most=if (r.nK 4).2.1=false\/most<(r.nK 4).1 then (0,(r.nK 4).2.2.fail)else ((r.nK 4).1,(r.nK 4).2.2)):=rfl;go_in;go_wp2_with fail;refine UR (ua w p r h 4 UN) λw1 hr=> ?_;generalize r.nK 4=t at*;obtain⟨n,ok,z⟩:=t;simp only at y hr j⊢;have Y:n<4294967296:=by simpa using y.2
 have V:=y.1;clear y;obtain⟨U,G⟩:=ik hr (nN.next hr hr.1.fail);obtain⟨a,cap,h1, -⟩:=hr.1;obtain⟨c0,c1⟩:=a' h1;clear h1 hr h
 cases ok with
 |false=>
  have u:Hi (r.int most=(0,z.fail)):=Hd (by rw [j.o,g7 (.inl rfl)]);clear j;go_wp2;go_ret;rw [u.o];exact⟨rfl,G.o,vS _,K⟩
 |true=>
  by_cases hlt:most<n
  ·have u:Hi (r.int most=(0,z.fail)):=by show _=_;rw [j.o,g7 (.inr hlt)]
   clear j;go_wp2;go_ret;rw [u.o];exact⟨rfl,G.o,vS _,K⟩
  ·have u:Hi (r.int most=(n,z)):=by show _=_;rw [j.o,g3 (λh=>h.elim (λh=>by cases h) hlt)]
   clear j;go_wp2;go_ret;rw [u.o];exact⟨rfl,U.o,V,UN⟩
theorem E6 (a b:Nat):((a:Int)==(b:Int))=decide (a=b):=by
 rw [oK,iO,jk];omega
def i5.done (r:i5):Bool:= !r.failed&&decide (r.pos=r.bytes.length)
theorem JH (w:World)(p:Nat)(r:i5)(h:nl p w r):Calls prog 168 #[.pointer (some ⟨p,0,none⟩)] w (Rt w (.bool r.done)):=by
 obtain⟨a,cap,h1,h2,y,z⟩:=h;obtain⟨c0,c1⟩:=a' h1;clear h1 h2
 cases j:r.failed with
 |true=>
  rw [j]at c0;have u:Hi (r.done=false):=Hd (by unfold i5.done;rw [j];rfl);go_in;go_wp2_with fail;go_quiet (fail);go_wp2;go_ret;exact⟨g8 u.o.symm,ny (g' _ _) _⟩
 |false=>
  rw [j]at c0;have u:Hi (r.done=decide (r.pos=r.bytes.length)):=Hd (by unfold i5.done;rw [j];rfl);go_in;go_wp2_with fail;go_quiet (fail);go_wp2;go_ret;rw [u.o];refine⟨g8 (E6 _ _),ny (g' _ _) _⟩
def i5.many (p:Int):Nat->i5->List Int->List Int×i5
 |0,r,acc=>(acc,r)
 |k+1,r,acc=>if p<=(r.nK 8).1 then ([],(r.nK 8).2.2.fail)else i5.many p k (r.nK 8).2.2 (acc++ [(r.nK 8).1])
def i5.list (r:i5)(most p:Int):List Int×i5:=
 if (r.int most).2.failed=true\/(((r.int most).2.bytes.length-(r.int most).2.pos:Nat):Int) / 8<(r.int most).1 then ([],(r.int most).2.fail)else i5.many p (r.int most).1.toNat (r.int most).2 []
def ni (acc:List Int)(k:Nat):List Value:=(acc++List.replicate k 0).map (Value.int .u64)
theorem I7 (acc:List Int)(k:Nat)(x:Int):(ni acc (k+1)).toArray.setIfInBounds acc.length (U2 x)=(ni (acc++ [x]) k).toArray:=by
 apply Array.ext';simp [ni,List.replicate_succ]
theorem GL (acc:List Int):ni acc 0=acc.map (Value.int .u64):=by simp [ni]
theorem Bf (n:Nat):madeCells #[Value.int .u64 0] n=(ni [] n).toArray:=by
 apply Array.ext';apply List.ext_getElem?;intro j;rcases kZ j n with h|h
 ·have u:j % 1=0:=Nat.mod_one j
  simp [madeCells,ni,h,u]
 ·simp [madeCells,ni,h]
def JY (p:Nat)(w:World)(x:List Int×i5)(e:Ending)(w':World):Prop:=
 ∃a cap,e= .returned (.slice a x.1.length cap)/\gZ.rel (λk=>w.heap.size<=k) w' [.slice a x.1.length cap] x.1/\nN p w x.2 w'
theorem nN.Sf {p:Nat}{w w':World}{r:i5}(h:nN p w r w'):w.heap.size<=w'.heap.size:=h.2.size
theorem nl.lt {p:Nat}{w:World}{r:i5}(h:nl p w r):p<w.heap.size:=by
 obtain⟨a,cap,h1, -⟩:=h;exact ii h1
theorem EP (w:World)(p:Nat)(r:i5)(h:nl p w r)(most u:Int)(aW:0<=most)(m1:most<=1000):
 Calls prog 167 #[.pointer (some ⟨p,0,none⟩),UZ most,u] w (JY p w (r.list most u)):=by
 have aH:=Hd h.lt;go_in;go_wp2_with fail;refine(pD w p r h most aW UN).mono ?_;rintro e w1⟨rfl,hr,aA,n1⟩;have K:Hi (r.list most u=if (r.int most).2.failed=true\/(((r.int most).2.bytes.length-(r.int most).2.pos:Nat):Int) / 8<(r.int most).1 then ([],(r.int most).2.fail)else i5.many u (r.int most).1.toNat (r.int most).2 []):=rfl;generalize r.int most=t at*;obtain⟨n,r1⟩:=t;simp only at hr aA n1 K⊢;obtain⟨ak,ar⟩:=ik hr (nN.next hr hr.1.fail);obtain⟨a,cap,h1, -,a4,a5⟩:=hr.1;obtain⟨c0,c1⟩:=a' h1;clear h1 hr h
 cases ab:r1.failed with
 |true=>
  have U:Hi (r.list most u=([],r1.fail)):=Hd (by rw [K.o,g7 (.inl ab)]);rw [ab]at c0;clear K;go_wp2;go_ret;rw [U.o];exact⟨none,0,rfl,g4.nil,ar.o⟩
 |false=>
  rw [ab]at c0;go_wp2_with fail;refine UR (CX w1 p r1 ak.o.1) λw2 hb2=> ?_;have HR2:=Hd (⟨ak.o.1.keep hb2,lu ak.o.2 (Kept.of_below hb2)⟩:nN p w r1 w2);have aD:=Hd (nN.next HR2.o HR2.o.1.fail);clear c0 c1 ar;obtain⟨a2,aZ,q1, -, -, -⟩:=HR2.o.1;obtain⟨c0,c1⟩:=a' q1;clear q1;rw [ab]at c0;by_cases hlt:((r1.bytes.length-r1.pos:Nat):Int) / 8<n
  ·have U:Hi (r.list most u=([],r1.fail)):=by show _=_;rw [K.o,g7 (.inr hlt)]
   clear K;go_wp2;go_ret;rw [U.o];exact⟨none,0,rfl,g4.nil,aD.o⟩
  ·have U:Hi (r.list most u=i5.many u n.toNat r1 []):=by show _=_;rw [K.o,g3 (λh=>h.elim (λh=>by rw [ab]at h;cases h) hlt)]
   clear K;obtain⟨N,rfl⟩:=lv aA;rw [jJ]at U;have a7:N<=1000:=UN;go_wp2_with (at_make;refine n8 rfl _ _ rfl iX (z:= U0) UQ (n:=N) rfl rfl rfl rfl ?_ ?_ ?_)
   ·omega
   ·unfold maxLen;omega
   have av:=gY w2 (.cells (ni [] N).toArray 24);have hb3:=jc w2 (.cells (ni [] N).toArray 24);rw [Bf];obtain⟨aF,aq⟩:=ik av hb3;generalize w2.alloc (.cells (ni [] N).toArray 24)=aX at*;have a9:w.heap.size<=w2.heap.size:=HR2.o.2.size;clear av hb3 c0 c1;have aJ:=Hd (⟨HR2.o.1.keep aq.o,lu HR2.o.2 (Kept.of_below aq.o)⟩:nN p w r1 aX);generalize a6:w2.heap.size=G at*
   have bg:p<G:=(by have:=aH.o;omega);go_loopw [31] (λap wr=> ∃(k:Nat) (rd:i5) (acc:List Int),k<=N/\ap= UZ k/\acc.length=k/\(∀x∈acc,iZ x)/\nN p w rd wr/\wr.heap[G]? =some (.cells (ni acc (N-k)).toArray 24 (0,0))/\Hi (i5.many u (N-k) rd acc=i5.many u N r1 [])) (λap _=>N-(intOf ap).toNat)
   case atStart=>exact⟨0,r1,[],iy _,rfl,rfl,λx h=>by simp at h,aJ.o,aF.o,rfl⟩
   case round=>
    obtain⟨k,rd,acc,bb,rfl,af,ax,ae,V,ad⟩:=hrel;by_cases be:k<N
    ·obtain⟨j,aP⟩: ∃j,N-k=j+1:=⟨N-k-1,UN⟩
     have aw:N-(k+1)=j:=UN;rw [aP]at V ad;obtain⟨aL,aK⟩:=ik V ae;have ag:=ae.1.Er 8;have K:Hi (i5.many u (j+1) rd acc=if u<=(rd.nK 8).1 then ([],(rd.nK 8).2.2.fail)else i5.many u j (rd.nK 8).2.2 (acc++ [(rd.nK 8).1])):=rfl;clear V;go_wp2_with fail;refine UR (ua _ p rd ae.1 8 UN) λY ah=> ?_;generalize rd.nK 8=t at*;obtain⟨x,ok,ai⟩:=t;simp only at ah ag K⊢;have aV:x<18446744073709551616:=(by simpa using ag.2);have aU:=ag.1;clear ag;have ao:=hE ah.2 aL.o (show G≠p by omega);obtain⟨d0,d1⟩:=a' ao;have bf:(ni acc (j+1)).length=N:=(by unfold ni;simp;omega);have au:=Hd (I7 acc j x);rw [af]at au;have al:=h6 (i:=k) (v:= U2 x) ao;rw [au.o]at al;have aI:=Hd al;have aO:Y.cell? ⟨G,k,none⟩=some U0:=(by rw [d0];simp [ni,af]);have a8:=Ue Y ⟨G,k,none⟩ (U2 x) aO;have R5:Hi (nN p w ai (Y.setCell ⟨G,k,none⟩ (U2 x))):=by
      have aQ:Kept (λi=>i<=p) Y (Y.setCell ⟨G,k,none⟩ (U2 x)):=(Kept.refl _ _).setCell (λ_ h=>by have aN:G<=p:=h;omega) _;have aT:Kept (λi=>i≠p) w (Y.setCell ⟨G,k,none⟩ (U2 x)):=(lu aK.o.2 ah.2).setCell (λh=>by have aN:G<w.heap.size:=h;omega) _;exact⟨ah.1.kept aQ,aT⟩
     clear al ao d0 ae;by_cases az:u<=x
     ·have aj:Hi (r.list most u=([],ai.fail)):=by show _=_;rw [U.o,<-ad.o,K.o,g7 az]
      have aE:=Hd (nN.next R5.o R5.o.1.fail);obtain⟨aY,a0,aC, -, -, -⟩:=R5.o.1;obtain⟨a1,a3⟩:=a' aC;clear aC;go_wp2;go_ret;rw [aj.o];exact⟨none,0,rfl,g4.nil,aE.o⟩
     ·have aG:Hi (i5.many u j ai (acc++ [x])=i5.many u N r1 []):=by show _=_;rw [<-ad.o,K.o,g3 az]
      go_wp2;go_roundw
      case rel=>exact⟨k+1,ai,acc++ [x],UN,by go_num,by simp [af],λy hy=>by rcases Ti.1 hy with h|h;exact ax y h;simp at h;subst h;exact ir aU aV,R5.o,by rw [aw];exact aI.o,by rw [aw];exact aG⟩
      case measure=>exact UY
    ·obtain rfl:k=N:=UN
     rw [sp]at V ad;rw [GL]at V;have aj:Hi (r.list most u=(acc,rd)):=Hd (by rw [U.o,<-ad.o];rfl)
     have ay:Own (j9 .u64) w.heap.size 24 (λx=>False\/w.heap.size<=x) wr (.slice (some ⟨G,0,none⟩) acc.length acc.length) acc:=
      nr (cur:=acc.map (Value.int .u64)) V (by rw [TC]) (TK (by rw [TC];exact g9 _)) ax (g9 _) (by unfold maxLen;omega) UN
     have aM:Hi (gZ.rel (λk=>w.heap.size<=k) wr [.slice (some ⟨G,0,none⟩) acc.length acc.length] acc):=gZ.mono ay.slice (λi _ h=>h.resolve_left id);clear ay V;subst af;go_wp2;go_ret;rw [aj.o];exact⟨some ⟨G,0,none⟩,acc.length,rfl,aM.o,ae⟩
def i5.n1 (r:i5):i5:=(r.uint 4294967295).2
def i5.n2 (r:i5):i5:=(r.n1.uint 18446744069414584320).2
def i5.n3 (r:i5):i5:=(r.n2.uint 18446744069414584320).2
def i5.n4 (r:i5):i5:=(r.n3.uint 18446744069414584320).2
def i5.note (r:i5):jZ:=⟨(r.uint 4294967295).1,(r.n1.uint 18446744069414584320).1,(r.n2.uint 18446744069414584320).1,(r.n3.uint 18446744069414584320).1⟩
def i5.s1 (r:i5):i5:=(r.n4.uint 18446744069414584320).2
def i5.s2 (r:i5):i5:=(r.s1.int 3).2
def i5.s3 (r:i5):i5:=(r.s2.int 4095).2
def i5.s4 (r:i5):i5:=(r.s3.list 12 18446744069414584321).2
def i5.s5 (r:i5):i5:=(r.s4.int 1).2
def i5.lR (r:i5):iR:=⟨r.note,(r.n4.uint 18446744069414584320).1,(r.s1.int 3).1,(r.s2.int 4095).1,(r.s3.list 12 18446744069414584321).1,(r.s4.int 1).1==1⟩
def i5.jE:Nat->i5->List iR->List iR×i5
 |0,r,acc=>(acc,r)
 |k+1,r,acc=>i5.jE k r.s5 (acc++ [r.lR])
def i5.notes:Nat->i5->List jZ->List jZ×i5
 |0,r,acc=>(acc,r)
 |k+1,r,acc=>i5.notes k r.n4 (acc++ [r.note])
theorem uP (w:World)(p:Nat)(r:i5)(h:nl p w r):Calls prog 165 #[.pointer (some ⟨p,0,none⟩)] w
 λe w'=>e= .returned (.agg #[r.note.value,r.note.owner,r.note.jr,r.note.blind])/\nN p w r.n4 w'/\nU r.note:=by
 have hlt:=h.lt;have G:=jc w (.cells #[U0,U0,U0,U0] 260);obtain⟨ax,ar,au⟩:=kT (gY w (.cells #[U0,U0,U0,U0] 260)) (h.keep G) G;clear G h;go_in;go_wp2_with fail;refine(oB _ p r ar.o 4294967295 UN).mono ?_;rintro e w1⟨rfl,h1,ad,ae⟩;go_wp2_with fail;refine(oB w1 p r.n1 h1.1 18446744069414584320 UN).mono ?_;rintro e w2⟨rfl,h2,af,ag⟩;go_wp2_with fail;refine(oB w2 p r.n2 h2.1 18446744069414584320 UN).mono ?_;rintro e ay⟨rfl,y,c0,c1⟩;go_wp2_with fail;refine(oB ay p r.n3 y.1 18446744069414584320 UN).mono ?_;rintro e aq⟨rfl,z,d0,d1⟩;have K:=lu (lu h1.2 h2.2) (lu y.2 z.2);have V:=hE K ax.o UN;obtain⟨az,aA⟩:=a' V;have Y:Hi (nU r.note):=⟨ir ad (vW ae UN),ir af (vW ag UN),ir c0 (vW c1 UN),ir d0 (vW d1 UN)⟩;have aw:Hi (nl p aq r.n4):=z.1;have av:Hi (Kept (λk=>k≠p) w aq):=lu (Kept.of_below au.o) K;have ah:r.note.value=(r.uint 4294967295).1:=rfl;have ai:r.note.owner=(r.n1.uint 18446744069414584320).1:=rfl;have aj:r.note.jr=(r.n2.uint 18446744069414584320).1:=rfl;have ak:r.note.blind=(r.n3.uint 18446744069414584320).1:=rfl;rw [<-ah,<-ai,<-aj,<-ak];clear ah ai aj ak ad ae af ag c0 c1 d0 d1 h1 h2 y z K;obtain⟨n,U⟩:=iF (r.note);have ab:=Hd U;rw [U]at Y⊢;clear U;have al:=h6 (i:=3) (v:= U2 n.blind) (h6 (i:=2) (v:= U2 n.jr) (h6 (i:=1) (v:= U2 n.owner) (h6 (i:=0) (v:= U2 n.value) V)));obtain⟨j, -⟩:=a' al;have k0:=j 0;have k1:=j 1;have ao:=j 2;have ap:=j 3;simp at k0 k1 ao ap;clear j al V;go_wp2_with fail;refine iQ (v:= .agg #[n.value,n.owner,n.jr,n.blind]) (by simp [results,results165,go_sem,k0,k1,ao,ap]) rfl ⟨by rw [ab.o],⟨?_,?_⟩,by rw [ab.o];exact Y.o⟩
 ·exact aw.o.kept (((((Kept.refl _ _).setCell (λ_ h=>by have u:w.heap.size<=p:=h;omega) _).setCell (λ_ h=>by have u:w.heap.size<=p:=h;omega) _).setCell (λ_ h=>by have u:w.heap.size<=p:=h;omega) _).setCell (λ_ h=>by have u:w.heap.size<=p:=h;omega) _)
 ·exact((((av.o.setCell (λh=>absurd h (pK _)) _).setCell (λh=>absurd h (pK _)) _).setCell (λh=>absurd h (pK _)) _).setCell (λh=>absurd h (pK _)) _)
structure kJ (w:World)(p q B:Nat)(v1 v2:Value)(sec:Int)(rd:i5)(wr:World):Prop where
 below:BW w wr
 rd:nl p wr rd
 box:wr.heap[q]? =some (.cells #[v1,v2,sec] 197 (0,0))
 res:wr.heap[w.heap.size]? =some (.cells #[S0,S0,U0] 197 (0,0))
 base:B<=wr.heap.size
structure nV (w:World)(p q B:Nat):Prop where
 wp:w.heap.size<p
 wq:w.heap.size<q
 pB:p<B
 qB:q<B
 pq:p<q
theorem kJ.kept {w wr w2:World}{p q B:Nat}{v1 v2:Value}{sec:Int}{rd:i5}(L:nV w p q B)(h:kJ w p q B v1 v2 sec rd wr)(j:Kept (λk=>k<B) wr w2):kJ w p q B v1 v2 sec rd w2:=
 have:=L.wp;have:=L.wq;have:=L.pB;have:=L.qB
 ⟨Kept.behind h.below (j.mono (S':=λk=>k<B) λ_ _ h=>h) h.below.size (λk j=>UN),h.rd.kept (j.mono λk _ h=>UN),hE j h.box L.qB,hE j h.res UN,iu h.base j.size⟩
theorem kJ.c' {w wr w2:World}{p q B:Nat}{v1 v2:Value}{sec:Int}{rd:i5}(L:nV w p q B)(h:kJ w p q B v1 v2 sec rd wr)(j:BW wr w2):kJ w p q B v1 v2 sec rd w2:=h.kept L (Kept.of_below j)
theorem kJ.read {w wr w2:World}{p q B:Nat}{v1 v2:Value}{sec:Int}{rd j:i5}(L:nV w p q B)(h:kJ w p q B v1 v2 sec rd wr)(hr:nN p wr j w2):kJ w p q B v1 v2 sec j w2:=
 have:=L.wp;have:=L.wq;have:=L.pB;have:=L.qB;have:=L.pq
 ⟨Kept.behind h.below hr.2 h.below.size (λk u=>UN),hr.1,hE hr.2 h.box UN,hE hr.2 h.res UN,iu h.base hr.2.size⟩
theorem kJ.store {w wr:World}{p q B:Nat}{v1 v2 u1 u2:Value}{sec zh:Int}{rd:i5}(L:nV w p q B)(h:kJ w p q B v1 v2 sec rd wr)(i:Nat)(v:Value)(u:(#[v1,v2,sec]:Array Value).setIfInBounds i v= #[u1,u2,U2 zh]):kJ w p q B u1 u2 zh rd (wr.setCell ⟨q,i,none⟩ v):=
 have:=L.wp;have:=L.wq;have:=L.pB;have:=L.qB;have:=L.pq;have j:Kept (λk=>k<=p) wr (wr.setCell ⟨q,i,none⟩ v):=(Kept.refl _ _).setCell (λ_ h=>by have y:q<=p:=h;omega) _
 ⟨h.below.setCell (by show w.heap.size<=q;omega) _,h.rd.kept j,u▸h6 h.box,hB h.res (show w.heap.size≠q by omega),by rw [Ub];exact h.base⟩
theorem kJ.drew {w wr:World}{p q B:Nat}{v1 v2:Value}{sec:Int}{rd:i5}(L:nV w p q B)(h:kJ w p q B v1 v2 sec rd wr):kJ w p q B v1 v2 sec rd wr.drew:=h.c' L (g' _ _).drew
theorem C4:jj prog 194 265 9 88:=jj.of underlying194 (z:= .agg #[U0,U0,U0,U0,U0,I0,I0,S0,false]) UQ rfl UN
theorem Bi:jj prog 195 260 4 32:=jj.of underlying195 (z:= .agg #[U0,U0,U0,U0]) UQ rfl UN
abbrev mL (B:Nat)(w:World)(v:Value)(l:List iR):Prop:=Own mH B 265 (λx=>False\/B<=x) w v l
abbrev mM (B:Nat)(w:World)(v:Value)(l:List jZ):Prop:=Own nP B 260 (λx=>False\/B<=x) w v l
theorem mL.read {B p:Nat}{w w2:World}{v:Value}{l:List iR}{rd:i5}(h:mL B w v l)(j:p<B)(hr:nN p w rd w2):mL B w2 v l:=h.keep (hr.2.mono λk _ h=>by rcases h with h|h;exact h.elim;omega)
theorem mM.read {B p:Nat}{w w2:World}{v:Value}{l:List jZ}{rd:i5}(h:mM B w v l)(j:p<B)(hr:nN p w rd w2):mM B w2 v l:=h.keep (hr.2.mono λk _ h=>by rcases h with h|h;exact h.elim;omega)
theorem mL.store {B q:Nat}{w:World}{v:Value}{l:List iR}(h:mL B w v l)(y:q<B)(i:Nat)(u:Value):mL B (w.setCell ⟨q,i,none⟩ u) v l:=h.keep ((Kept.refl _ _).setCell (λ_ h=>by have j:False\/B<=q:=h;rcases j with j|j;exact j;omega) _)
theorem mM.store {B q:Nat}{w:World}{v:Value}{l:List jZ}(h:mM B w v l)(y:q<B)(i:Nat)(u:Value):mM B (w.setCell ⟨q,i,none⟩ u) v l:=h.keep ((Kept.refl _ _).setCell (λ_ h=>by have j:False\/B<=q:=h;rcases j with j|j;exact j;omega) _)
def nt (bs:List Int):Option po:=
 match i5.jE (i5.int ⟨bs,0,false⟩ 4).1.toNat (i5.int ⟨bs,0,false⟩ 4).2 []with
 |(ins,r)=>match i5.notes (r.int 4).1.toNat (r.int 4).2 []with
    |(outs,j)=>if (j.uint 18446744069414584320).2.done=true then some ⟨ins,outs,(j.uint 18446744069414584320).1⟩else none
def A9 (bs:List Int)(w:World)(e:Ending)(w':World):Prop:=
 match nt bs with
 |none=>e= .returned (.tuple #[.agg #[S0,S0,U0],UZ 2])/\BW w w'
 |some t=> ∃j c1 a2 c2,e= .returned (.tuple #[.agg #[.slice j t.ins.length c1,.slice a2 t.outs.length c2,t.hU],I0])/\
  h8.rel (λ_=>True) w' [.slice j t.ins.length c1] t.ins/\i6.rel (λ_=>True) w' [.slice a2 t.outs.length c2] t.outs/\iZ t.hU/\BW w w'
theorem Fi (w:World)(a:UP)(cap:Nat)(bs:List Int)(S:UO)(h:hD.rel S w [.slice a bs.length cap] bs)(cv:bs.length<=1000000):
 Calls prog 116 #[.slice a bs.length cap] w (A9 bs w):=by
 have a6:=jc w (.cells #[S0,S0,U0] 197);obtain⟨bB,H,bq⟩:=kT (gY w (.cells #[S0,S0,U0] 197)) (hD.c' h a6) a6;have bK:(w.alloc (.cells #[S0,S0,U0] 197)).heap.size=w.heap.size+1:=U4 ..;have bA:=Hd bK;clear a6 h bK;go_in;go_wp2_with fail;refine(zA S _ a cap bs H.o cv).mono ?_;rintro e w1⟨p,rfl,bI,bk,hb1⟩;have bH:nV w p w1.heap.size (w1.heap.size+1):=by
  have h1:=bA.o;have h2:=bk.lt;rw [h1]at bI;exact⟨UN,UN,UN,UN,UN⟩
 have hbq:=jc w1 (.cells #[S0,S0,U0] 197)
 have K:kJ w p w1.heap.size (w1.heap.size+1) S0 S0 0 ⟨bs,0,false⟩ (w1.alloc (.cells #[S0,S0,U0] 197)):=
  ⟨d' (d' bq.o hb1) hbq,bk.keep hbq,gY _ _,iq (b' hb1 bB.o),by rw [U4];exact g9 _⟩
 obtain⟨ay,G⟩:=ik K bH;clear K bH hbq bk hb1 bI bB bq bA H;go_wp2_with fail;generalize w1.alloc (.cells #[S0,S0,U0] 197)=W at ay⊢;generalize cI:w1.heap.size=q at*;generalize cB:q+1=B at*
 refine(pD W p _ ay.o.rd 4 UN UN).mono ?_;rintro e w2⟨rfl,h2,bL,n1⟩;have aL:=Hd (ay.o.read G.o h2);obtain⟨N,a5⟩:=lv bL;have bW:=Hd a5;rw [a5]at n1⊢;clear a5 bL h2 ay;obtain⟨r1,bi⟩:=iF ((i5.int ⟨bs,0,false⟩ 4).2);have b4:=Hd bi;rw [bi]at aL;clear bi;have cD:N<=4:=UN
 go_wp2;go_loopw [10] (λai wr=> ∃(k:Nat) (rd:i5) (v:Value) (ins:List iR),k<=N/\ai= UZ k/\ins.length=k/\kJ w p q B v S0 0 rd wr/\mL B wr v ins/\Hi (i5.jE (N-k) rd ins=i5.jE N r1 [])) (λai _=>N-(intOf ai).toNat)
 case atStart=>exact⟨0,r1,S0,[],iy _,rfl,rfl,aL.o,Own.nil _ _ _ _ _,rfl⟩
 case round=>
  obtain⟨k,rd,v,ins,ah,rfl,aD,K,V,U⟩:=hrel;by_cases cG:k<N
  ·obtain⟨j,a9⟩: ∃j,N-k=j+1:=⟨N-k-1,UN⟩
   have bb:N-(k+1)=j:=UN;rw [a9]at U;have aT:Hi (i5.jE j rd.s5 (ins++ [rd.lR])=i5.jE N r1 []):=U;obtain⟨ak,HOr⟩:=ik (K.drew G.o) (show mL B wr.drew v ins from V.c' (g' _ _).drew);have bz:=Hd (λk (ah:v.ownBlock=some k)=>(V.lt ah).1);obtain⟨cw,cy⟩:=a' K.box;clear U K V;go_wp2_with fail
   go_region_law (first
    |(refine iV (r:=mH) (base:=B) (v:=v) (u:= .slice (some ⟨ae.heap.size,0,none⟩) 1 1) rfl _ _ rfl C4 rfl rfl (Own.c' bC.o (hd (g' _ _) _)) (Src.one (mH.c' cf.o (hd (g' _ _) _)) (jx.new ae (rz rd.lR pa pc) 265)) (λk _ h=> .inr (iu ak.o.base h)) (λk ah h=>absurd (bz.o k ah) (Nat.not_lt.2 h)) (by unfold maxLen;simp;omega) (by simp;omega) (iu ar.o.base (by rw [U4];omega)) ?_
      intro v2 aj av bf cu;obtain⟨a2,ab,rfl, -, -⟩:=g4.form av.slice;have au:=Hd (kJ.kept G.o (kJ.c' G.o ar.o (hd (g' _ _) _)) (bf.mono (S':=λk=>k<B) λk _ bF a8=>by have:=(Own.lt bC.o a8).2.2;omega));have aV:Hi (mL B aj (.slice a2 (ins++ [rd.lR]).length ab) (ins++ [rd.lR])):=av.mono λk _ h=>by
       rcases h with h|h
       ·exact h
       ·exact .inr (iu ar.o.base (iu (by rw [U4];omega) h))
      obtain⟨aF,aG⟩:=a' au.o.box)
    |(go_simp;first
       |(go_at_call 165;refine(uP _ p rd ak.o.rd).mono ?_;rintro e w2⟨rfl,ad,bm⟩
         obtain⟨af,az⟩:=ik (kJ.read G.o ak.o ad) (mL.read HOr.o G.o.pB ad);obtain⟨cz,cA⟩:=a' af.o.box)
       |(go_at_call 166;refine(oB _ p rd.n4 af.o.rd 18446744069414584320 UN).mono ?_;rintro e aH⟨rfl,aX,cg,Y⟩
         have aI:Hi (kJ w p q B v S0 0 rd.s1 aH):=kJ.read G.o af.o aX;have b8:=Hd (mL.read az.o G.o.pB aX);obtain⟨cO,cP⟩:=a' aI.o.box)
       |(go_at_call_of 164 (Value.int IntKind.i64 3);refine(pD _ p rd.s1 aI.o.rd 3 UN UN).mono ?_;rintro e aq⟨rfl,aY,ch,cj⟩
         have aJ:Hi (kJ w p q B v S0 0 rd.s2 aq):=kJ.read G.o aI.o aY;have b9:=Hd (mL.read b8.o G.o.pB aY);obtain⟨cM,m1⟩:=a' aJ.o.box)
       |(go_at_call_of 164 (Value.int IntKind.i64 4095);refine(pD _ p rd.s2 aJ.o.rd 4095 UN UN).mono ?_;rintro e aw⟨rfl,aZ,c0,c1⟩
         have ax:Hi (kJ w p q B v S0 0 rd.s3 aw):=kJ.read G.o aJ.o aZ;have cd:=Hd (mL.read b9.o G.o.pB aZ);obtain⟨l0,l1⟩:=a' ax.o.box)
       |(go_at_call 167;refine(EP _ p rd.s3 ax.o.rd 12 18446744069414584321 UN UN).mono ?_;rintro e bN⟨pa,pc,rfl,bJ,bD⟩
         have aK:Hi (kJ w p q B v S0 0 rd.s4 bN):=kJ.read G.o ax.o bD;have ce:=Hd (mL.read cd.o G.o.pB bD);obtain⟨cJ,cK⟩:=a' aK.o.box;have b1:=Hd bJ;clear bJ)
       |(go_at_call_of 164 (Value.int IntKind.i64 1);refine(pD _ p rd.s4 aK.o.rd 1 UN UN).mono ?_;rintro e ae⟨rfl,a0,d0,d1⟩
         have ar:Hi (kJ w p q B v S0 0 rd.s5 ae):=kJ.read G.o aK.o a0;have bC:=Hd (mL.read ce.o G.o.pB a0);obtain⟨k0,k1⟩:=a' ar.o.box;have cL:=λo'=>(a' (iq (o':=o') ar.o.box)).1
         have cf:Hi (mH.rel (λk=>wr.heap.size<=k) ae (rz rd.lR pa pc) rd.lR):=
          mH.mk (s:=rd.lR) ⟨bm,ir cg (vW Y UN),nw (zQ UN ch) (vW cj UN),nw (zQ UN c0) (vW c1 UN)⟩
           (gZ.mono (gZ.keep b1.o (a0.2.mono λk _ h=>oi (jg G.o.pB (iu ax.o.base h)))) λk _ h=>iu (iu (show wr.heap.size<=w2.heap.size from ad.2.size) (iu aX.2.size (iu aY.2.size aZ.2.size))) h))))
   all_goals
    have aQ:=Hd (kJ.store G.o au.o 0 (.slice a2 (ins++ [rd.lR]).length ab) rfl);have aW:=Hd (mL.store aV.o G.o.qB 0 (.slice a2 (ins++ [rd.lR]).length ab));go_wp2;go_roundw
    case rel=>exact⟨k+1,rd.s5,.slice a2 (ins++ [rd.lR]).length ab,ins++ [rd.lR],UN,by go_num,by rw [U3,aD];rfl,by simpa [aD]using aQ.o,by simpa [aD]using aW.o,by rw [bb];exact aT⟩
    case measure=>exact UY
  ·obtain rfl:k=N:=UN
   subst aD;rw [sp]at U;have bO:Hi (i5.jE ins.length r1 []=(ins,rd)):=U.o.symm;have ag:=K.base;have bw:=Hd (h8.bound V.slice);obtain⟨Y,c1,rfl, -, -⟩:=g4.form V.slice;obtain⟨C,a1⟩:=iF (wr.heap.size);rw [a1]at ag;have bx:Hi (h8.rel (λx=>B<=x/\x<C) wr [.slice Y ins.length c1] ins):=h8.mono bw.o λx _ h=>⟨h.1.resolve_left id,by rw [<-a1];exact h.2⟩;have al:=Hd K;have cq:C<=wr.heap.size:=UN;clear U K V bw a1 aL;go_wp2_with fail;refine(pD wr p rd al.o.rd 4 UN UN).mono ?_;rintro e aH⟨rfl,aA,n2,n3⟩;have aM:=Hd (al.o.read G.o aA);have bv:Hi (h8.rel (λx=>B<=x/\x<C) aH [.slice Y ins.length c1] ins):=h8.keep bx.o (aA.2.mono λx _ h=>oi (jg G.o.pB h.1));have cl:C<=aH.heap.size:=iu cq aA.2.size;obtain⟨M,a4⟩:=lv n2;have bV:=Hd a4;rw [a4]at n3⊢;clear a4 n2 aA al bx;obtain⟨r2,bj⟩:=iF ((rd.int 4).2);have HR2:=Hd bj;rw [bj]at aM;clear bj;have cC:M<=4:=UN;go_wp2;go_loopw [34] (λai wr=> ∃(k:Nat) (rd:i5) (v:Value) (outs:List jZ),k<=M/\ai= UZ k/\outs.length=k/\kJ w p q B (.slice Y ins.length c1) v 0 rd wr/\mM C wr v outs/\h8.rel (λx=>B<=x/\x<C) wr [.slice Y ins.length c1] ins/\C<=wr.heap.size/\Hi (i5.notes (M-k) rd outs=i5.notes M r2 [])) (λai _=>M-(intOf ai).toNat)
   case atStart=>exact⟨0,r2,S0,[],iy _,rfl,rfl,aM.o,Own.nil _ _ _ _ _,bv.o,cl,rfl⟩
   case round=>
    obtain⟨ap,kt,v,outs,cE,rfl,ao,K,V,aE,cp,U⟩:=hrel;by_cases cH:ap<M
    ·obtain⟨j,a9⟩: ∃j,M-ap=j+1:=⟨M-ap-1,UN⟩
     have bb:M-(ap+1)=j:=UN;rw [a9]at U;have aT:Hi (i5.notes j kt.n4 (outs++ [kt.note])=i5.notes M r2 []):=U;obtain⟨ak,HOr,bU⟩:=kT (K.drew G.o) (show mM C wr.drew v outs from V.c' (g' _ _).drew) (h8.c' aE (g' _ _).drew);obtain⟨cw,cy⟩:=a' K.box;clear U K V aE;have bz:=Hd (λk (ah:v.ownBlock=some k)=>(HOr.o.lt ah).1);go_wp2_with fail
     go_region_law (first
      |(refine iV (r:=nP) (base:=C) (v:=v) (u:= .slice (some ⟨aq.heap.size,0,none⟩) 1 1) (S:=λ_=>False) rfl _ _ rfl Bi rfl rfl (Own.c' az.o (hd (g' _ _) _)) (Src.one (nP.mk bm) (jx.new aq [kt.note.value,kt.note.owner,kt.note.jr,kt.note.blind] 260)) (λk _ h=>h.elim) (λk ah h=>h) (by unfold maxLen;simp;omega) (by simp;omega) (iu a3 (by rw [U4];omega)) ?_
        intro v2 aj av bf cu;obtain⟨a2,ab,rfl, -, -⟩:=g4.form av.slice;have bg:Kept (λk=>k<C) (aq.alloc (.cells #[kt.note.value,kt.note.owner,kt.note.jr,kt.note.blind] 260)) aj:=bf.mono λk _ cF a8=>(by have:=(Own.lt az.o a8).2.2;omega);have au:=Hd (kJ.kept G.o (kJ.c' G.o af.o (hd (g' _ _) _)) (bg.mono (S':=λk=>k<B) λk _ bF=>jg bF ag));have b6:=Hd (h8.keep (h8.c' b5.o (hd (g' _ _) _)) (bg.mono λk _ h=>h.2));have cn:C<=aj.heap.size:=iu a3 (iu (by rw [U4];omega) bg.size);have aV:Hi (mM C aj (.slice a2 (outs++ [kt.note]).length ab) (outs++ [kt.note])):=av.mono λk _ h=>by
         rcases h with h|h
         ·exact h
         ·exact .inr (iu a3 (iu (by rw [U4];omega) h))
        obtain⟨aF,aG⟩:=a' au.o.box)
      |(go_simp;go_at_call 165;refine(uP _ p kt ak.o.rd).mono ?_;rintro e aq⟨rfl,ad,bm⟩
        obtain⟨af,az⟩:=ik (kJ.read G.o ak.o ad) (mM.read HOr.o (jg G.o.pB ag) ad);obtain⟨cz,cA⟩:=a' af.o.box;have cN:=λo'=>(a' (iq (o':=o') af.o.box)).1;have a3:C<=aq.heap.size:=iu cp ad.2.size;have b5:=Hd (h8.keep bU.o (ad.2.mono λx _ h=>oi (jg G.o.pB h.1)))))
     all_goals
      have aQ:=Hd (kJ.store G.o au.o 1 (.slice a2 (outs++ [kt.note]).length ab) rfl);have aW:=Hd (mM.store aV.o (jg G.o.qB ag) 1 (.slice a2 (outs++ [kt.note]).length ab));have b7:=Hd (h8.keep b6.o ((Kept.refl _ aj).setCell (p:=⟨q,1,none⟩) (λ_ h=>by have ck:B<=q/\q<C:=h;have:=G.o.qB;omega) (.slice a2 (outs++ [kt.note]).length ab)));have co:C<=(aj.setCell ⟨q,1,none⟩ (.slice a2 (outs++ [kt.note]).length ab)).heap.size:=(by rw [Ub];exact cn);go_wp2;go_roundw
      case rel=>exact⟨ap+1,kt.n4,.slice a2 (outs++ [kt.note]).length ab,outs++ [kt.note],UN,by go_num,by rw [U3,ao];rfl,by simpa [ao]using aQ.o,by simpa [ao]using aW.o,by simpa [ao]using b7.o,by simpa [ao]using co,by rw [bb];exact aT⟩
      case measure=>exact UY
    ·obtain rfl:ap=M:=UN
     subst ao;rw [sp]at U;have bP:Hi (i5.notes outs.length r2 []=(outs,kt)):=U.o.symm;obtain⟨a2,c2,rfl, -, -⟩:=g4.form V.slice;obtain⟨b0,bT,al⟩:=kT (i6.mono V.slice (S':=λk=>C<=k) λx _ h=>h.resolve_left id) aE K;have aP:Hi (nt bs=if (kt.uint 18446744069414584320).2.done=true then some ⟨ins,outs,(kt.uint 18446744069414584320).1⟩else none):=by
      show _=_;unfold nt;rw [bW.o,b4.o,jJ,bO.o];simp only;rw [bV.o,HR2.o,jJ,bP.o]
     clear U K V aE aM bv;go_wp2_with fail;refine(oB _ p kt al.o.rd 18446744069414584320 UN).mono ?_;rintro e aw⟨rfl,aC,s0,s1⟩;have aN:=Hd (al.o.read G.o aC);have bX:=Hd (i6.keep b0.o (aC.2.mono λx _ h=>oi (jg G.o.pB (iu ag h))));have bQ:=Hd (h8.keep bT.o (aC.2.mono λx _ h=>oi (jg G.o.pB h.1)));generalize kt.uint 18446744069414584320=t at*;obtain⟨sec,bM⟩:=t;simp only at aN aP s0 s1⊢;obtain⟨aF,aG⟩:=a' aN.o.box;have bt:=Hd (kJ.store G.o aN.o 2 (U2 sec) (u1:= .slice Y ins.length c1) (u2:= .slice a2 outs.length c2) (zh:=sec) rfl);have be:Kept (λk=>B<=k) aw (aw.setCell ⟨q,2,none⟩ (U2 sec)):=(Kept.refl _ _).setCell (λ_ h=>by have ck:B<=q:=h;have:=G.o.qB;omega) _;obtain⟨bY,bR⟩:=ik (i6.keep bX.o (be.mono λk _ h=>iu ag h)) (h8.keep bQ.o (be.mono λk _ h=>h.1));clear be aC;go_wp2_with fail;generalize aw.setCell ⟨q,2,none⟩ (U2 sec)=bN at*
     refine UR (JH _ p bM bt.o.rd) λae a7=> ?_;obtain⟨aO,bZ,bS⟩:=kT (bt.o.c' G.o a7) (i6.c' bY.o a7) (h8.c' bR.o a7);clear aF aG;obtain⟨aF,aG⟩:=a' aO.o.box;obtain⟨f0,f1⟩:=a' aO.o.res;have br:=Hd aO.o.below
     cases bE:bM.done with
     |true=>
      have aU:Hi (nt bs=some ⟨ins,outs,sec⟩):=Hd (by rw [aP.o,bE];rfl);obtain⟨bn,bo,bp⟩:=lV (x:= .slice Y ins.length c1) (y:= .slice a2 outs.length c2) (z:= U2 sec) (f0 0) (f0 1) (f0 2);go_wp2_with fail;refine iQ (v:= .tuple #[.agg #[.slice Y ins.length c1,.slice a2 outs.length c2,sec],I0]) (by simp [results,results116,go_sem,bn,bo,bp]) rfl ?_;have bG:Kept (λk=>B<=k) ae (((ae.setCell ⟨w.heap.size,0,none⟩ (.slice Y ins.length c1)).setCell ⟨w.heap.size,1,none⟩ (.slice a2 outs.length c2)).setCell ⟨w.heap.size,2,none⟩ (U2 sec)):=by
       have bh:w.heap.size<ae.heap.size-> ¬B<=w.heap.size:=λ_ h=>(by have:=G.o.wq;have:=G.o.qB;omega);exact(((Kept.refl _ _).setCell bh _).setCell bh _).setCell bh _
      unfold A9;rw [aU.o]
      exact⟨Y,c1,a2,c2,rfl,h8.mono (h8.keep bS.o (bG.mono λk _ h=>h.1)) λ_ _ _=>trivial,i6.mono (i6.keep bZ.o (bG.mono λk _ h=>iu ag h)) λ_ _ _=>trivial,ir s0 (vW s1 UN),
       ((br.o.setCell (g9 _) _).setCell (g9 _) _).setCell (g9 _) _⟩
     |false=>
      have aU:Hi (nt bs=none):=Hd (by rw [aP.o,bE];rfl);obtain⟨bn,bo,bp⟩:=lV (x:= S0) (y:= S0) (z:= U0) (f0 0) (f0 1) (f0 2);go_wp2_with fail;refine iQ (v:= .tuple #[.agg #[S0,S0,U0],UZ 2]) (by simp [results,results116,go_sem,bn,bo,bp]) rfl ?_;unfold A9;rw [aU.o];exact⟨rfl,((br.o.setCell (g9 _) _).setCell (g9 _) _).setCell (g9 _) _⟩
end Go.Proofs.YtjdiofjjoefnhaaGreatDoor
