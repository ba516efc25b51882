/- Contracts of the rules' functions: txcheck.Rules, the reference's Rules, both parameter checks, and awake, for all values of the fields; no conditions. -/
import Derived.Test.YtjdiofjjoefnhaaGreatDoorProg
import Derived.Test.YtjdiofjjoefnhaaGreatDoorMKit
import Derived.WalkSpells
import Derived.Deep.RegionHeld3
import Derived.Deep.QuietTactic
import Derived.BigQuiet
import Derived.Deep.RegionLaw
import Derived.Lib.Mul64
import Derived.Laws.Bits64b
import Derived.Laws.Externs
import Derived.Shelf.Bits.Mul64
set_option maxRecDepth 100000
set_option maxHeartbeats 4000000
namespace Go.Proofs.YtjdiofjjoefnhaaGreatDoor
open Tryz Go.ChangeShapes Go.WideShapes Go.ChangeAt Go.RowKit
theorem _root_.Go.RowKit.Below.next {a b c:World}(h1:BW a b)(h2:BW b c):BW a c:=h1.trans (h2.mono h1.size)
theorem _root_.Go.RowKit.Below.new {a b:World}(h:BW a b)(o:Obj):BW a (b.alloc o):=h.alloc h.size o
def oF (a b c:Int):Bool:=
 decide (2<=a/\a<=256/\bits BinOp.and IntKind.i64 a (a-1)=0/\(b=1\/b=2\/b=4\/b=8)/\1<=c/\c<=64)
theorem E1 (a b c:Int)(w:World):
 Calls prog 98 #[.agg #[UZ a,UZ b,UZ c]] w (Rt w (.bool (oF a b c))):=by
 go_wp2
 all_goals go_ret
 all_goals refine⟨g8 ?_,(g' _ _).alloc (g9 _) _⟩
 all_goals unfold oF
 all_goals first
  |exact(iP UN).symm
  |exact(iH UN).symm
  |exact sr.2 UN
def xO (m d bl bu q iz win fin work:Int):Bool:=
 decide ((1<=m/\m<=3/\1<=d/\d<=12/\1<=win/\win<=100/\1<=fin/\fin<=1048576/\iz<=4294967296/\1<=work/\work<=65536)/\(m=1->oF bl bu q=true))
def jK (m d bl bu q iz win fin work:Int):Int:=if xO m d bl bu q iz win fin work=true then 0 else 1
theorem t3 {m d bl bu q iz win fin work:Int}
 (h: ¬(1<=m/\m<=3/\1<=d/\d<=12/\1<=win/\win<=100/\1<=fin/\fin<=1048576/\iz<=4294967296/\1<=work/\work<=65536)):
 1=jK m d bl bu q iz win fin work:=by
 unfold jK xO;rw [g3 (by rw [jk];exact λg=>h g.1)]
theorem t4 {m d bl bu q iz win fin work:Int}(h1:m=1)(h:(!oF bl bu q)=true):
 1=jK m d bl bu q iz win fin work:=by
 unfold jK xO;rw [g3 (by rw [jk];intro g;have:=g.2 h1;simp [this]at h)]
theorem qm {m d bl bu q iz win fin work:Int}
 (h:1<=m/\m<=3/\1<=d/\d<=12/\1<=win/\win<=100/\1<=fin/\fin<=1048576/\iz<=4294967296/\1<=work/\work<=65536)
 (h1:m=1->oF bl bu q=true):0=jK m d bl bu q iz win fin work:=by
 unfold jK xO;rw [g7 (by rw [jk];exact⟨h,h1⟩)]
theorem vv (m d bl bu q iz win fin work:Int)(w:World):
 Calls prog 62 #[.agg (qs m d bl bu q iz win fin work)] w (Rt w (UZ (jK m d bl bu q iz win fin work))):=by
 go_in;go_wp2_with (go_at_call 98;refine UR (E1 _ _ _ _) λw' j=> ?_)
 all_goals go_ret
 all_goals refine⟨g2 ?_,?_⟩
 all_goals first
  |exact(g' _ _).alloc (g9 _) _
  |exact((g' _ _).alloc (g9 _) _).trans (j.mono US)
  |exact t3 UN
  |exact t4 ‹_› ‹_›
  |exact qm UN (λh=>UN)
  |exact qm UN (λh=>by simpa using ‹(!oF bl bu q)=false›)
def ph (lo:Int):Nat->Int->Bool
 |0,_=>false
 |k+1,a=>ph lo k a||(a==lo*2^k)
theorem yC (lo:Int)(k:Nat)(a:Int):ph lo (k+1) a=(ph lo k a||(a==lo*2^k)):=rfl
def rB (a b c:Int):Bool:=ph 2 8 a&&ph 1 4 b&&decide (1<=c)&&decide (c<=64)
theorem zc: ∀n:Fin 257,bits BinOp.and IntKind.i64 (n.val:Int) ((n.val:Int)-1)=0↔(n.val=0\/ph 1 9 (n.val:Int)=true):=by
 decide+kernel
theorem KH (a:Int):ph 2 8 a=true↔a=2\/a=4\/a=8\/a=16\/a=32\/a=64\/a=128\/a=256:=by
 simp [ph];omega
theorem KI (a:Int):ph 1 9 a=true↔a=1\/a=2\/a=4\/a=8\/a=16\/a=32\/a=64\/a=128\/a=256:=by
 simp [ph];omega
theorem KG (a:Int):ph 1 4 a=true↔a=1\/a=2\/a=4\/a=8:=by
 simp [ph];omega
theorem DJ (a b c:Int):oF a b c=rB a b c:=by
 unfold oF rB;rw [oK];simp only [jk,kg,KH,KG];by_cases h:2<=a/\a<=256
 ·obtain⟨n,rfl⟩:=lv (show 0<=a by omega)
  have:=zc ⟨n,UN⟩;simp only [KI]at this;rw [this];omega
 ·constructor
  ·rintro⟨h1,h2,_⟩;exact absurd ⟨h1,h2⟩ h
  ·rintro⟨⟨⟨h1,_⟩,_⟩,_⟩;omega
theorem Sk: ∀k:Fin 9,((2*2^k.val:Int)<=256↔k.val<8)/\2<=(2*2^k.val:Int)/\(2*2^k.val:Int)<=512:=by decide+kernel
theorem Sl: ∀k:Fin 5,((1*2^k.val:Int)<=8↔k.val<4)/\1<=(1*2^k.val:Int)/\(1*2^k.val:Int)<=16:=by decide+kernel
theorem zt (a b c:Int)(w:World):
 Calls prog 70 #[.agg #[UZ a,UZ b,UZ c]] w (Rt w (.bool (rB a b c))):=by
 go_wp2;go_loop [3,5] (λt i=> ∃(k:Nat) (m:Int),k<=8/\Hi (m=2*2^k)/\i= UZ m/\t= .bool (ph 2 k a)) (λ_ i=>(512-intOf i).toNat)
 case atStart=>exact⟨0,2,UN,rfl,rfl,rfl⟩
 case round=>
  obtain⟨k,m,ae,u,rfl,rfl⟩:=hrel;have y:=Sk ⟨k,UN⟩;simp only at y;rw [<-u.o]at y;obtain⟨K,af,ag⟩:=y;have j:=Hd K;clear K;have U:=Hd (yC 2 k a);have G:Hi (2*m=2*2^(k+1)):=Hd (by rw [u.o,qR];omega);by_cases hlt:m<=256
  ·have z:=j.o.1 hlt
   go_wp2
   all_goals
    go_round
    case rel=>
     refine⟨k+1,2*m,UN,G,rfl,?_⟩;rw [U.o,<-u.o];simp [*]
    case measure=>exact UY
  ·have z:k=8:=by have:=j.o;omega
   subst z;clear j G U;generalize V:ph 2 8 a=bl;have ab:=Hd V;clear V;go_wp2;go_loop [4,6] (λt i=> ∃(k:Nat) (m:Int),k<=4/\Hi (m=1*2^k)/\i= UZ m/\t= .bool (ph 1 k b)) (λ_ i=>(16-intOf i).toNat)
   case atStart=>exact⟨0,1,UN,rfl,rfl,rfl⟩
   case round=>
    obtain⟨k,m,ae,u,rfl,rfl⟩:=hrel;have y:=Sl ⟨k,UN⟩;simp only at y;rw [<-u.o]at y;obtain⟨K,af,ag⟩:=y;have j:=Hd K;clear K;have U:=Hd (yC 1 k b);have G:Hi (2*m=1*2^(k+1)):=Hd (by rw [u.o,qR];omega);by_cases hlt:m<=8
    ·have z:=j.o.1 hlt
     go_wp2
     all_goals
      go_round
      case rel=>
       refine⟨k+1,2*m,UN,G,rfl,?_⟩;rw [U.o,<-u.o];simp [*]
      case measure=>exact UY
    ·have z:k=4:=by have:=j.o;omega
     subst z;clear j G U;generalize Y:ph 1 4 b=bu;have ad:=Hd Y;clear Y;go_wp2
     all_goals go_ret
     all_goals refine⟨g8 ?_,(g' _ _).alloc (g9 _) _⟩
     all_goals unfold rB
     all_goals rw [ab.o,ad.o]
     all_goals first
      |(simp [*];done)
      |(simp [*];omega)
theorem Dn {m d bl bu q iz win fin work:Int} (h1:m=1) (a:iz<=4294967296) (b:1<=work) (c:work<=65536)
 (h:((4294967296<iz\/work<1)\/65536<work)\/(!oF bl bu q)=true):1=jK m d bl bu q iz win fin work:=
 t4 h1 (by rcases h with h|h;· exfalso;omega
           ·exact h)
theorem Bv {m d bl bu q iz win fin work:Int}
 (h:1<=m/\m<=3/\1<=d/\d<=12/\1<=win/\win<=100/\1<=fin/\fin<=1048576/\iz<=4294967296/\1<=work/\work<=65536)
 (h1:((iz<=4294967296/\1<=work)/\work<=65536)/\(!oF bl bu q)=false):0=jK m d bl bu q iz win fin work:=
 qm h (λ_=>by simpa using h1.2)
theorem rL (m d bl bu q iz win fin work:Int)(w:World):
 Calls prog 24 #[.agg (qs m d bl bu q iz win fin work)] w (Rt w (UZ (jK m d bl bu q iz win fin work))):=by
 go_in;go_wp2_with (go_at_call 70;refine UR (zt _ _ _ _) λw' j=> ?_;rw [<-DJ])
 all_goals go_ret
 all_goals refine⟨g2 ?_,?_⟩
 all_goals first
  |exact(g' _ _).alloc (g9 _) _
  |exact((g' _ _).alloc (g9 _) _).trans (j.mono US)
  |exact t3 UN
  |exact t4 ‹_› ‹_›
  |exact qm UN (λh=>UN)
  |exact Dn ‹_› ‹_› ‹_› ‹_› ‹_›
  |exact Bv UN ‹_›
theorem pA (w:World):Calls prog 221 #[.agg #[.int .u64 18446744069414584321]] w (Rt w (.bool true)):=by
 go_wp2;go_ret;exact⟨rfl,hd (g' _ _) _⟩
theorem DL (w:World):Calls prog 432 #[.agg #[.int .u64 18446744069414584321]] w (Rt w (.tuple #[.int .u64 7,.int .i64 32,.int .u64 7])):=by
 go_wp2;go_ret3;exact⟨rfl,hd (g' _ _) _⟩
theorem BL (w:World):Calls prog 366 #[.agg #[.int .u64 18446744069414584321]] w (Rt w (.int .u64 7)):=by
 go_in;go_wp2_with fail;refine UR (DL _) λw1 j=> ?_;go_wp2;go_ret;exact⟨rfl,d' (hd (g' _ _) _) j⟩
theorem nH (n:Int)(j:0<=n)(w:World):Calls prog 364 #[.agg #[.int .u64 18446744069414584321],.int .u64 n] w (Rt w (.int .u64 (mz n))):=by
 by_cases h:n<18446744069414584321
 ·go_in
  go_wp2;go_ret;exact⟨g2 (EN j h).symm,hd (g' _ _) _⟩
 ·go_in
  go_wp2;go_ret;exact⟨g2 (by unfold mz;rfl),hd (g' _ _) _⟩
theorem yp (x y s c:Int)(z:0<=x)(hy:0<=y)(u:(x+y) % 18446744073709551616=s)(j:(x+y) / 18446744073709551616=c)(w:World):
 (callFunc 431 #[.int .u64 x,.int .u64 y,U0]).run prog w= .ok (.value (.tuple #[.int .u64 s,.int .u64 c])) w:=by
 rw [run_callFunc_extern func431 UQ UQ UQ (e:=add64Entry) UQ,run_add64 x y 0 z hy UN UN,Int.add_zero,u,j];rfl
theorem K' (a b:Int)(u:0<=a)(G:a<18446744069414584321)(y:0<=b)(K:b<18446744069414584321)(w:World):
 Calls prog 363 #[.agg #[.int .u64 18446744069414584321],.int .u64 a,.int .u64 b] w (Rt w (.int .u64 (ig a b))):=by
 by_cases h1:a+b<18446744069414584321
 ·have z:=yp a b (a+b) 0 u y UN UN
  have j:Hi (ig a b=a+b):=Hd (by unfold ig;omega);go_wp2;go_ret;exact⟨g2 (by rw [j.o]),hd (g' _ _) _⟩
 ·by_cases h2:a+b<18446744073709551616
  ·have z:=yp a b (a+b) 0 u y UN UN
   have j:Hi (ig a b=a+b-18446744069414584321):=Hd (by unfold ig;omega);go_wp2;go_ret;exact⟨g2 (by rw [j.o]),hd (g' _ _) _⟩
  ·have z:=yp a b (a+b-18446744073709551616) 1 u y UN UN
   have j:Hi (ig a b=IntKind.u64.wrap (a+b-18446744073709551616-18446744069414584321)):=by
    show _=_;unfold ig;rw [jP];omega
   go_wp2;go_ret;exact⟨g2 (by rw [j.o]),hd (g' _ _) _⟩
def Eb (x y:Int):Int:=x*y / 18446744073709551616
def D' (x y:Int):Int:=x*y % 18446744073709551616
theorem G5 (x y:Nat)(u:x<18446744073709551616)(hy:y<18446744073709551616)(w:World):
 Calls prog 290 #[.int .u64 x,.int .u64 y] w λe w'=>e= .returned (.tuple #[.int .u64 ((x*y / 18446744073709551616:Nat):Int),.int .u64 ((x*y % 18446744073709551616:Nat):Int)])/\w'=w:=by
 obtain⟨bd,j,Y,ab⟩:=Lib.mul64_hi x y u hy;have ba:=Lib.half_mul_le (a:=x / 4294967296) (b:=y / 4294967296) UN UN;have ad:=Lib.half_mul_le (a:=x / 4294967296) (b:=y % 4294967296) UN UN;have bc:=Lib.half_mul_le (a:=x % 4294967296) (b:=y / 4294967296) UN UN;have z:x / 4294967296*(y / 4294967296)<18446744073709551616:=UN
 have G:x / 4294967296*(y % 4294967296)<18446744073709551616:=UN
 have K:x % 4294967296*(y / 4294967296)<18446744073709551616:=UN
 have V:x / 4294967296*(y / 4294967296)+(x / 4294967296*(y % 4294967296)+x % 4294967296*(y % 4294967296) / 4294967296) / 4294967296<18446744073709551616:=UN
 have U:x / 4294967296*(y / 4294967296)+(x / 4294967296*(y % 4294967296)+x % 4294967296*(y % 4294967296) / 4294967296) / 4294967296+((x / 4294967296*(y % 4294967296)+x % 4294967296*(y % 4294967296) / 4294967296) % 4294967296+x % 4294967296*(y / 4294967296)) / 4294967296<18446744073709551616:=UN
 go_wp2;simp only [Mul64.maskN x u,Mul64.maskN y hy,Mul64.divN,Mul64.mulN,Mul64.addN,Mul64.wrapN _ bd,Mul64.wrapN _ G,Mul64.wrapN _ j,Mul64.maskN _ j,Mul64.wrapN _ K,Mul64.wrapN _ Y,Mul64.wrapN _ z,Mul64.wrapN _ V,Mul64.wrapN _ U,Mul64.wrapM (x*y)];rw [ab];go_ret2;exact⟨rfl,rfl⟩
theorem Ao (x y:Int)(j:0<=x)(z:x<18446744073709551616)(u:0<=y)(G:y<18446744073709551616)(w:World):
 Calls prog 290 #[.int .u64 x,.int .u64 y] w λe w'=>e= .returned (.tuple #[.int .u64 (Eb x y),.int .u64 (D' x y)])/\w=w':=by
 obtain⟨x,rfl⟩:=lv j;obtain⟨y,rfl⟩:=lv u;refine(G5 x y UN UN w).mono ?_;rintro e w'⟨rfl,rfl⟩;refine⟨?_,rfl⟩;unfold Eb D';rw [Cf,Int.natCast_emod,Int.natCast_mul];rfl
theorem G9 (w:World):Calls prog 216 #[U2 18446744069414584321] w λe w'=>e= .returned (UZ 64)/\w=w':=by
 go_wp2;go_ret;exact⟨UQ,rfl⟩
theorem Jp (w:World):Calls prog 361 #[U2 18446744069414584321] w λe w'=>e= .returned I0/\w=w':=by
 go_in;go_wp2_with fail;refine(G9 _).mono ?_;rintro e w1⟨rfl,rfl⟩;go_wp2;go_ret;exact⟨rfl,rfl⟩
theorem K8:bits .and .u64 18446744069414584321 4294967295=1:=by decide+kernel
theorem or_zero (a:Int)(j:0<=a)(h1:a<18446744073709551616):bits .or .u64 a 0=a:=by
 obtain⟨n,rfl⟩:=lv j;have h:=bits_or_u64_nat n 0 UN UN;simpa using h
theorem JU (a:Int)(j:0<=a)(h1:a<18446744073709551616):bits .and .u64 a 4294967295=a % 4294967296:=by
 obtain⟨n,rfl⟩:=lv j;have h:=Mul64.maskN n UN;rw [h];omega
def leftOf (hi lo:Int):Int:=(hi*18446744073709551616+lo) % 18446744069414584321
def MR (hi lo:Int)(w:World)(e:Ending)(w':World):Prop:= ∃q,e= .returned (.tuple #[q,(leftOf hi lo)])/\BW w w'
theorem Ax (hi lo:Int)(Y:0<=hi)(h1:hi<18446744069414584321)(l0:0<=lo)(l1:lo<18446744073709551616)(w:World):
 Calls prog 291 #[hi,lo,U2 18446744069414584321] w (MR hi lo w):=by
 by_cases V:hi=0
 ·subst V
  go_in;go_wp2_with fail;go_quiet (fail);go_wp2;go_ret2;exact⟨_,by unfold leftOf;simp;rfl,by repeat (first|exact g' _ _|refine ny ?_ _)⟩
 ·have aF:(hi==0)=false:=by simpa using V
  have aE:0<hi:=UN;clear V;have aj:=K8;have ak:lo / 18446744073709551616=0:=UN;have al:=or_zero hi Y UN;have ao:=JU lo l0 l1;go_in;go_wp2_with fail;refine(Jp _).mono ?_;rintro e w1⟨rfl,rfl⟩;go_wp2_with fail;clear aj ak al;obtain⟨u,ab⟩: ∃u:Int,lo / 4294967296=u:=⟨_,rfl⟩;obtain⟨v,ad⟩: ∃v:Int,lo % 4294967296=v:=⟨_,rfl⟩;have u0:0<=u:=UN;have u1:u<4294967296:=UN;have v0:0<=v:=UN;have v1:v<4294967296:=UN;have ag:Hi (lo=u*4294967296+v):=Hd UN;rw [ab,ad];clear ab ad ao;go_loop [15,16] (λq r=> ∃a b:Int,q= U2 a/\r= U2 b/\oL hi u a b) (λq _=>(intOf q).toNat)
  case atStart=>exact⟨_,_,rfl,rfl,oL.start Y h1⟩
  case round=>
   obtain⟨a,b,rfl,rfl,z⟩:=hrel;have j:=Hd z;obtain⟨aw,ax,ay,az⟩:=z.bounds;clear z;by_cases c1:4294967296<=a
   ·obtain⟨n1,n2,n3,n4⟩:=j.o.next h1 u0 u1 (.inl c1)
    subst n4;go_wp2_with fail;go_round
    case rel=>exact⟨a-1,0+4294967295,rfl,rfl,n1⟩
    case measure=>exact UY
   ·by_cases c2:4294967296*b+u<a
    ·obtain⟨n1,n2,n3,n4⟩:=j.o.next h1 u0 u1 (.inr c2)
     subst n4;go_wp2_with fail;go_round
     case rel=>exact⟨a-1,0+4294967295,rfl,rfl,n1⟩
     case measure=>exact UY
    ·obtain⟨d1,K,U⟩:=j.o.done u0 u1 UN UN
     obtain⟨y,aq⟩: ∃y:Int,4294967296*b+u-a=y:=⟨_,rfl⟩;have ae:Hi (hi*4294967296+u=a*18446744069414584321+y):=Hd UN;have ap:IntKind.u64.wrap (IntKind.u64.wrap (IntKind.u64.wrap (hi*4294967296)+u)-IntKind.u64.wrap (a*18446744069414584321))=y:=by
      rw [jP,jP,jP,jP];omega
     have U0:0<=y:=UN;have U1:y<18446744069414584321:=UN;clear d1 K U aq j;go_wp2_with fail;clear ap;go_loop [18,16] (λq r=> ∃c d:Int,q= U2 c/\r= U2 d/\oL y v c d) (λq _=>(intOf q).toNat)
     case atStart=>exact⟨_,_,rfl,rfl,oL.start U0 U1⟩
     case round=>
      obtain⟨c,d,rfl,rfl,z⟩:=hrel;have j:=Hd z;obtain⟨k0,k1,aG,aH⟩:=z.bounds;clear z;by_cases ah:4294967296<=c
      ·obtain⟨n1,n2,n3,n4⟩:=j.o.next U1 v0 v1 (.inl ah)
       subst n4;go_wp2_with fail;go_round
       case rel=>exact⟨c-1,0+4294967295,rfl,rfl,n1⟩
       case measure=>exact UY
      ·by_cases ai:4294967296*d+v<c
       ·obtain⟨n1,n2,n3,n4⟩:=j.o.next U1 v0 v1 (.inr ai)
        subst n4;go_wp2_with fail;go_round
        case rel=>exact⟨c-1,0+4294967295,rfl,rfl,n1⟩
        case measure=>exact UY
       ·obtain⟨d1,K,U⟩:=j.o.done v0 v1 UN UN
        obtain⟨G,ar⟩: ∃G:Int,4294967296*d+v-c=G:=⟨_,rfl⟩;have aA:IntKind.u64.wrap (IntKind.u64.wrap (IntKind.u64.wrap (y*4294967296)+v)-IntKind.u64.wrap (c*18446744069414584321))=G:=by
         rw [jP,jP,jP,jP];omega
        have af:Hi (G=leftOf hi lo):=by
         show _=_;have aC:=ae.o;have aD:=ag.o;unfold leftOf;omega
        have au:0<=G:=UN;have av:G<18446744073709551616:=UN;clear d1 K U ar j;go_wp2;go_ret2;exact⟨_,by rw [<-af.o];rfl,g' _ _⟩
theorem yI (a b:Int):leftOf (Eb a b) (D' a b)=kM a b:=by
 unfold leftOf Eb D' kM;generalize a*b=c;omega
theorem Gb {a b:Int}(u:0<=a)(y:a<18446744069414584321)(j:0<=b)(z:b<18446744069414584321):0<=Eb a b/\Eb a b<18446744069414584321/\0<=D' a b/\D' a b<18446744073709551616:=by
 have h:a*b<=18446744069414584321*18446744069414584321:=Int.mul_le_mul UN UN j UN;have G:0<=a*b:=Cc u j;unfold Eb D';generalize a*b=c at*
 omega
theorem ux (a b:Int)(j:0<=a)(z:a<18446744069414584321)(u:0<=b)(G:b<18446744069414584321)(w:World):
 Calls prog 365 #[.agg #[.int .u64 18446744069414584321],.int .u64 a,.int .u64 b] w (Rt w (.int .u64 (kM a b))):=by
 obtain⟨K,U,V,Y⟩:=Gb j z u G;have y:=Hd (yI a b);go_in;go_wp2_with fail;refine(Ao a b j UN u UN _).mono ?_;rintro e w1⟨rfl,rfl⟩;go_wp2_with fail;refine(Ax _ _ K U V Y _).mono ?_;rintro e w1⟨q,rfl,hb1⟩;rw [y.o];go_wp2;go_ret;exact⟨rfl,d' (hd (g' _ _) _) hb1⟩
theorem and_one (n:Nat)(h:n<18446744073709551616):bits .and .u64 (n:Int) 1=((n % 2:Nat):Int):=by
 have j:=bits_and_u64_nat n 1 h UN;rw [Nat.and_one_is_mod]at j;exact j
theorem KF (a:Int)(aq:0<=a)(ar:a<18446744069414584321)(e:Nat)(av:e<18446744073709551616)(w:World):
 Calls prog 433 #[.agg #[.int .u64 18446744069414584321],.int .u64 a,.int .u64 e] w λx w'=>x= .returned (.int .u64 (mn a e))/\BW w w':=by
 have au:=jc w (.cells #[.int .u64 18446744069414584321] 305);have ao:=Hd (gY w (.cells #[.int .u64 18446744069414584321] 305));go_wp2
 go_loopw [1,2,7] (λaz ag aA wr=> ∃(b r:Int) (k:Nat),az= .int .u64 b/\ag= .int .u64 k/\aA= .int .u64 r/\0<=b/\b<18446744069414584321/\0<=r/\r<18446744069414584321/\k<18446744073709551616/\Hi (kM r (mn b k)=mn a e)/\
  wr.heap[w.heap.size]? =some (.cells #[.int .u64 18446744069414584321] 305 (0,0))/\BW w wr) (λ_ ag _ _=>(intOf ag).toNat)
 case atStart=>exact⟨a,1,e,rfl,rfl,rfl,aq,ar,UN,UN,av,F3 a e,ao.o,au⟩
 case round=>
  obtain⟨b,r,k,rfl,rfl,rfl,j,u,ad,r1,aw,ab,af,Y⟩:=hrel;obtain⟨ak,al⟩:=a' af;have V:=Hd af;clear af;by_cases ax:k=0
  ·subst ax
   have ap:Hi (r=mn a e):=Hd (by rw [<-ab.o,yd ad r1]);go_wp2;go_ret;exact⟨g2 ap.o,Y⟩
  ·have k1:0<(k:Int):=UN
   have aD:0<k:=UN;have ae:=and_one k aw;by_cases ai:k % 2=1
   ·rw [ai]at ae
    have ah:=Hd (pow_odd r b k ai);by_cases aC:k / 2=0
    ·obtain rfl:k=1:=UN
     have y:=qh r b;have z:Hi (kM (kM r b) (mn b 0)=mn a e):=by
      show _=_;rw [yd y.1 y.2,<-ab.o];unfold mn;rw [Int.pow_one,Int.emod_eq_of_lt j u]
     clear ae ah;go_wp2_with fail;refine UR (ux r b ad r1 j u _) λw1 hb1=> ?_;have K:=b' hb1 V.o;have G:=d' Y hb1;go_wp2;go_roundw
     case rel=>exact⟨b,kM r b,0,rfl,rfl,rfl,j,u,y.1,y.2,UN,z,K,G⟩
     case measure=>simp [intOf]
    ·have y:=qh r b
     have U:=qh b b;have z:Hi (kM (kM r b) (mn (kM b b) (k / 2))=mn a e):=by
      show _=_;rw [ah.o,ab.o]
     have ay:0<(k:Int) / 2:=UN;have aE:((k:Int) / 2).toNat<k:=UN;go_wp2_with fail;refine UR (ux r b ad r1 j u _) λw1 hb1=> ?_;clear ak al;obtain⟨ak,al⟩:=a' (b' hb1 V.o);go_wp2_with fail;refine UR (ux b b j u j u _) λw2 hb2=> ?_;have K:=b' hb2 (b' hb1 V.o);have G:=d' (d' Y hb1) hb2;go_wp2;go_roundw
     case rel=>exact⟨kM b b,kM r b,k / 2,rfl,by rw [Cf];rfl,rfl,U.1,U.2,y.1,y.2,UN,z,K,G⟩
     case measure=>exact UY
   ·have aj:k % 2=0:=UN
    rw [aj]at ae;have U:=qh b b;have z:Hi (kM r (mn (kM b b) (k / 2))=mn a e):=by
     show _=_;rw [pow_even r b k aj,ab.o]
    have ay:0<(k:Int) / 2:=UN;go_wp2_with fail;refine UR (ux b b j u j u _) λw2 hb2=> ?_;have K:=b' hb2 V.o;have G:=d' Y hb2;go_wp2;go_roundw
    case rel=>exact⟨kM b b,r,k / 2,rfl,by rw [Cf];rfl,rfl,U.1,U.2,ad,r1,UN,z,K,G⟩
    case measure=>exact UY
def qO (w:World)(w':World):Prop:=BW w w'/\w.heap.size<w'.heap.size/\ ∀o,w'.cell? ⟨w.heap.size,o,none⟩=(#[.int .u64 18446744069414584321]:Array Value)[o]?
theorem qO.drew {w w':World}(h:qO w w'):qO w w'.drew:=⟨h.1.drew,h.2.1,h.2.2⟩
theorem qO.next {w w1 w2:World}(h:qO w w1)(j:BW w1 w2):qO w w2:=
 ⟨d' h.1 j,jg h.2.1 j.size,λo=>(j.cell (p:=⟨_,o,none⟩) h.2.1).trans (h.2.2 o)⟩
theorem qO.of {w w':World}(u:BW w w')(j:w'.heap[w.heap.size]? =some (.cells #[.int .u64 18446744069414584321] 305 (0,0))):qO w w':=⟨u,ii j,(a' j).1⟩
theorem mq (a b:Int)(z:0<=a)(G:0<=b)(w:World):
 Calls prog 296 #[.agg #[.int .u64 18446744069414584321],.int .u64 a,.int .u64 b] w (Rt w (.int .u64 (ig a b))):=by
 have j:=oE a;have u:=oE b;have y:=Hd (JW a b);go_in;go_wp2_with fail;refine UR (pA _) λw1 hb1=> ?_;have K:=qO.of (d' (hd (g' _ _) _) hb1) (b' hb1 (gY w _));obtain⟨U,V⟩:=a' (b' hb1 (gY w _));go_wp2_with fail
 go_region_held3 (λw'=>BW w w'/\w.heap.size<w'.heap.size/\ ∀o,w'.cell? ⟨w.heap.size,o,none⟩=(#[.int .u64 18446744069414584321]:Array Value)[o]?)
  (first
    |exact K.drew
    |(have hh:=(‹BW w _/\_<_/\_› :qO w _);exact qO.next hh hbc))
  (first
    |(go_at_call_of 364 a;refine UR (nH a z _) λw2 hbc=> ?_)
    |(go_at_call_of 364 b;refine UR (nH b G _) λw2 hbc=> ?_)
    |(go_at_call 363;refine UR (K' _ _ j.1 j.2 u.1 u.2 _) λw2 hbc=> ?_))
 all_goals (have hh:=(‹BW w _/\_<_/\_› :qO w _))
 all_goals go_wp2_with fail
 all_goals go_ret
 all_goals exact⟨g2 (by rw [y.o]),hh.1⟩
theorem Lf (a b:Int)(z:0<=a)(G:0<=b)(w:World):
 Calls prog 297 #[.agg #[.int .u64 18446744069414584321],.int .u64 a,.int .u64 b] w (Rt w (.int .u64 (kM a b))):=by
 have j:=oE a;have u:=oE b;have y:=Hd (CT a b);go_in;go_wp2_with fail;refine UR (pA _) λw1 hb1=> ?_;have K:=qO.of (d' (hd (g' _ _) _) hb1) (b' hb1 (gY w _));obtain⟨U,V⟩:=a' (b' hb1 (gY w _));go_wp2_with fail
 go_region_held3 (λw'=>BW w w'/\w.heap.size<w'.heap.size/\ ∀o,w'.cell? ⟨w.heap.size,o,none⟩=(#[.int .u64 18446744069414584321]:Array Value)[o]?)
  (first
    |exact K.drew
    |(have hh:=(‹BW w _/\_<_/\_› :qO w _);exact qO.next hh hbc))
  (first
    |(go_at_call_of 364 a;refine UR (nH a z _) λw2 hbc=> ?_)
    |(go_at_call_of 364 b;refine UR (nH b G _) λw2 hbc=> ?_)
    |(go_at_call 365;refine UR (ux _ _ j.1 j.2 u.1 u.2 _) λw2 hbc=> ?_))
 all_goals (have hh:=(‹BW w _/\_<_/\_› :qO w _))
 all_goals go_wp2_with fail
 all_goals go_ret
 all_goals exact⟨g2 (by rw [y.o]),hh.1⟩
theorem Bp (a:Int)(y:0<=a)(n:Nat)(G:n<18446744073709551616)(w:World):
 Calls prog 367 #[.agg #[.int .u64 18446744069414584321],.int .u64 a,.int .u64 n] w (Rt w (.int .u64 (mn a n))):=by
 have j:=oE a;have u:=Hd (CN a n);go_in;go_wp2_with fail;refine UR (pA _) λw1 hb1=> ?_;have z:=qO.of (d' (hd (g' _ _) _) hb1) (b' hb1 (gY w _));obtain⟨K,U⟩:=a' (b' hb1 (gY w _));go_wp2_with fail
 go_region_held3 (λw'=>BW w w'/\w.heap.size<w'.heap.size/\ ∀o,w'.cell? ⟨w.heap.size,o,none⟩=(#[.int .u64 18446744069414584321]:Array Value)[o]?)
  (first
    |exact z.drew
    |(have hh:=(‹BW w _/\_<_/\_› :qO w _);exact qO.next hh hbc))
  (first
    |(go_at_call 364;refine UR (nH a y _) λw2 hbc=> ?_)
    |(go_at_call 433;refine UR (KF _ j.1 j.2 n G _) λw2 hbc=> ?_))
 all_goals (have hh:=(‹BW w _/\_<_/\_› :qO w _))
 all_goals go_wp2_with fail
 all_goals go_ret
 all_goals exact⟨g2 (by rw [u.o]),hh.1⟩
abbrev T3:=Int×Int×Int
def oZ (r i:Int):Int:=mz (IntKind.u64.wrap ((3*r+i+1)*11400714819323198485))
def tM (s:T3):T3:=(ig s.1 (ig (ig s.1 s.2.1) s.2.2),ig s.2.1 (ig (ig s.1 s.2.1) s.2.2),ig s.2.2 (ig (ig s.1 s.2.1) s.2.2))
def lT (r i x:Int):Int:=mn (ig x (oZ r i)) 7
def mY (s:T3):Nat->T3
 |0=>s
 |k+1=>tM (lT k 0 (mY s k).1,lT k 1 (mY s k).2.1,lT k 2 (mY s k).2.2)
def kh (s:T3):T3:=mY s 8
def jT (s:T3):Prop:=(0<=s.1/\s.1<18446744073709551616)/\(0<=s.2.1/\s.2.1<18446744073709551616)/\(0<=s.2.2/\s.2.2<18446744073709551616)
theorem jY (a b:Int):0<=ig a b/\ig a b<18446744073709551616:=by
 have:=Bn a b;omega
theorem yH (s:T3):jT (tM s):=by
 unfold jT tM;exact⟨jY _ _,jY _ _,jY _ _⟩
theorem uS {s:T3}(h:jT s): ∀k,jT (mY s k)
 |0=>h
 |_+1=>yH _
theorem m8 (r i x:Int):0<=lT r i x/\lT r i x<18446744073709551616:=by
 have:=F4 (ig x (oZ r i)) 7;unfold lT;omega
theorem Fy (n:Int)(j:0<=n)(w:World):Calls prog 434 #[.agg #[U2 18446744069414584321],n] w (Rt w (U2 (mz n))):=by
 go_in;go_wp2_with fail;refine UR (pA _) λw1 hb1=> ?_;obtain⟨u,y⟩:=a' (b' hb1 (gY w _));go_wp2_with fail;refine UR (nH n j _) λw2 hb2=> ?_;go_wp2;go_ret;exact⟨rfl,d' (d' (hd (g' _ _) _) hb1) hb2⟩
theorem rR (r i:Int)(y:0<=r)(r1:r<8)(j:0<=i)(u:i<=2)(w:World):
 Calls prog 368 #[U2 18446744069414584321,UZ r,UZ i] w (Rt w (U2 (oZ r i))):=by
 have hw:0<=IntKind.u64.wrap ((3*r+i+1)*11400714819323198485):=by rw [jP];omega
 go_in;go_wp2_with fail;refine UR (Fy _ hw _) λw1 hb1=> ?_;go_wp2;go_ret;exact⟨rfl,hb1⟩
def np (w:World)(a b c:Int)(w':World):Prop:=
 BW w w'/\w.heap.size+2<w'.heap.size/\(∀o,w'.cell? ⟨w.heap.size,o,none⟩=(#[U2 a,U2 b,U2 c]:Array Value)[o]?)/\(∀o,w'.cell? ⟨w.heap.size+2,o,none⟩=(#[U2 18446744069414584321]:Array Value)[o]?)/\
  (∀o,o<3->(w'.cell? ⟨w.heap.size+1,o,none⟩).isSome=true)/\(∀o,w'.frozen? ⟨w.heap.size+1,o,none⟩=false)
theorem np.drew {w w':World}{a b c:Int}(h:np w a b c w'):np w a b c w'.drew:=⟨h.1.drew,h.2.1,h.2.2.1,h.2.2.2.1,h.2.2.2.2.1,h.2.2.2.2.2⟩
theorem np.next {w w1 w2:World}{a b c:Int}(h:np w a b c w1)(j:BW w1 w2):np w a b c w2:=by
 obtain⟨h1,h2,u,y,z,G⟩:=h;have U:=j.size
 exact⟨d' h1 j,UN,λo=>(j.cell (p:=⟨_,o,none⟩) (show w.heap.size<w1.heap.size by omega)).trans (u o),λo=>(j.cell (p:=⟨_,o,none⟩) h2).trans (y o),
  λo K=>by rw [j.cell (p:=⟨w.heap.size+1,o,none⟩) (show w.heap.size+1<w1.heap.size by omega)];exact z o K,λo=>(j.frozen (p:=⟨w.heap.size+1,o,none⟩) (show w.heap.size+1<w1.heap.size by omega)).trans (G o)⟩
theorem lV {w:World}{b:Nat}{u0 u1 u2 x y z:Value}(k0:w.cell? ⟨b,0,none⟩=some u0)(k1:w.cell? ⟨b,1,none⟩=some u1)(K:w.cell? ⟨b,2,none⟩=some u2):
 (((w.setCell ⟨b,0,none⟩ x).setCell ⟨b,1,none⟩ y).setCell ⟨b,2,none⟩ z).cell? ⟨b,0,none⟩=some x/\(((w.setCell ⟨b,0,none⟩ x).setCell ⟨b,1,none⟩ y).setCell ⟨b,2,none⟩ z).cell? ⟨b,1,none⟩=some y/\
 (((w.setCell ⟨b,0,none⟩ x).setCell ⟨b,1,none⟩ y).setCell ⟨b,2,none⟩ z).cell? ⟨b,2,none⟩=some z:=by
 have j:(⟨b,0,none⟩:Addr)≠⟨b,1,none⟩:=US
 have u:(⟨b,0,none⟩:Addr)≠⟨b,2,none⟩:=US
 have G:(⟨b,1,none⟩:Addr)≠⟨b,2,none⟩:=US
 refine⟨?_,?_,?_⟩
 ·rw [T1 _ _ _ _ u.symm,T1 _ _ _ _ j.symm];exact Ue _ _ _ k0
 ·rw [T1 _ _ _ _ G.symm];exact Ue _ _ _ ((T1 _ _ _ _ j).trans k1)
 ·exact Ue _ _ _ ((T1 _ _ _ _ G).trans ((T1 _ _ _ _ u).trans K))
theorem np.store {w w':World}{a b c:Int}(h:np w a b c w')(x y z:Value):np w a b c (((w'.setCell ⟨w.heap.size+1,0,none⟩ x).setCell ⟨w.heap.size+1,1,none⟩ y).setCell ⟨w.heap.size+1,2,none⟩ z):=by
 obtain⟨h1,h2,G,K,j,U⟩:=h;obtain⟨u0,k0⟩:=zT.1 (j 0 UN);obtain⟨u1,k1⟩:=zT.1 (j 1 UN);obtain⟨u2,Y⟩:=zT.1 (j 2 UN);obtain⟨ab,r1,r2⟩:=lV (x:=x) (y:=y) (z:=z) k0 k1 Y;have far: ∀(q o:Nat),q≠w.heap.size+1->(((w'.setCell ⟨w.heap.size+1,0,none⟩ x).setCell ⟨w.heap.size+1,1,none⟩ y).setCell ⟨w.heap.size+1,2,none⟩ z).cell? ⟨q,o,none⟩=w'.cell? ⟨q,o,none⟩:=λq o u=>by
  rw [UC _ _ _ _ (λe=>u e.symm),UC _ _ _ _ (λe=>u e.symm),UC _ _ _ _ (λe=>u e.symm)]
 refine⟨((h1.setCell (o9 _) _).setCell (o9 _) _).setCell (o9 _) _,by rw [Ub,Ub,Ub];exact h2,λo=>(far _ o UN).trans (G o),λo=>(far _ o UN).trans (K o),λo V=> ?_,λo=>by rw [World.frozen?_setCell,World.frozen?_setCell,World.frozen?_setCell];exact U o⟩
 match o,V with
 |0,_=>rw [ab];rfl
 |1,_=>rw [r1];rfl
 |2,_=>rw [r2];rfl
theorem lb (w:World)(a b c:Obj):(((w.alloc a).alloc b).alloc c).heap[w.heap.size+2]? =some c/\(((w.alloc a).alloc b).alloc c).heap[w.heap.size+1]? =some b/\(((w.alloc a).alloc b).alloc c).heap[w.heap.size]? =some a:=by
 have j:(w.alloc a).heap.size=w.heap.size+1:=U4 ..;have u:((w.alloc a).alloc b).heap.size=w.heap.size+2:=by rw [U4,j]
 exact⟨u▸gY _ c,iq (j▸gY _ b),iq (iq (gY _ a))⟩
theorem np.start (w:World)(a b c:Int):np w a b c (((w.alloc (.cells #[a,b,c] 230)).alloc (.cells #[U0,U0,U0] 230)).alloc (.cells #[U2 18446744069414584321] 305)):=by
 obtain⟨q1,q2,u⟩:=lb w (.cells #[a,b,c] 230) (.cells #[U0,U0,U0] 230) (.cells #[U2 18446744069414584321] 305);refine⟨hd (hd (hd (g' _ _) _) _) _,ii q1,(a' u).1,(a' q1).1,λo j=> ?_,(a' q2).2⟩;rw [(a' q2).1]
 match o,j with
 |0,_=>rfl
 |1,_=>rfl
 |2,_=>rfl
theorem KM (a b c:Int)(G:0<=a)(K:0<=b)(c0:0<=c)(w:World):
 Calls prog 369 #[U2 18446744069414584321,.agg #[a,b,c]] w
  (Rt w (.agg #[U2 (tM (a,b,c)).1,U2 (tM (a,b,c)).2.1,U2 (tM (a,b,c)).2.2])):=by
 have ab:=jY a b;go_in;go_wp2_with fail;have U:np w a b c (((w.alloc (.cells #[a,b,c] 230)).alloc (.cells #[U0,U0,U0] 230)).alloc (.cells #[U2 18446744069414584321] 305)):=np.start w a b c
 go_region_held3 (λw'=>BW w w'/\w.heap.size+2<w'.heap.size/\(∀o,w'.cell? ⟨w.heap.size,o,none⟩=(#[U2 a,U2 b,U2 c]:Array Value)[o]?)/\(∀o,w'.cell? ⟨w.heap.size+2,o,none⟩=(#[U2 18446744069414584321]:Array Value)[o]?)/\
  (∀o,o<3->(w'.cell? ⟨w.heap.size+1,o,none⟩).isSome=true)/\(∀o,w'.frozen? ⟨w.heap.size+1,o,none⟩=false))
  (first
    |exact U.drew
    |(have hh:=(‹BW w _/\_<_/\_› :np w a b c _);exact np.next hh hbc))
  (first
    |(go_at_call_of 296 c;refine UR (mq (ig a b) c ab.1 c0 _) λw2 hbc=> ?_)
    |(go_at_call 296;refine UR (mq a b G K _) λw2 hbc=> ?_))
 have ae:=(‹BW w _/\_<_/\_› :np w a b c _);clear U;obtain⟨m,j⟩: ∃m:Int,ig (ig a b) c=m:=⟨_,rfl⟩;have u:0<=m:=by have:=jY (ig a b) c;omega
 have Y:=Hd j;rw [j];clear j;go_wp2_with fail
 go_region_held3 (λw'=>BW w w'/\w.heap.size+2<w'.heap.size/\(∀o,w'.cell? ⟨w.heap.size,o,none⟩=(#[U2 a,U2 b,U2 c]:Array Value)[o]?)/\(∀o,w'.cell? ⟨w.heap.size+2,o,none⟩=(#[U2 18446744069414584321]:Array Value)[o]?)/\
  (∀o,o<3->(w'.cell? ⟨w.heap.size+1,o,none⟩).isSome=true)/\(∀o,w'.frozen? ⟨w.heap.size+1,o,none⟩=false))
  (first
    |exact np.drew ae
    |(have hh:=(‹BW w _/\_<_/\_› :np w a b c _);exact np.next hh hbc)
    |(have hh:=(‹BW w _/\_<_/\_› :np w a b c _);exact np.store hh _ _ _))
  (first
    |(go_at_call_of 296 a;refine UR (mq a m G u _) λV hbc=> ?_)
    |(go_at_call_of 296 b;refine UR (mq b m K u _) λV hbc=> ?_)
    |(go_at_call_of 296 c;refine UR (mq c m c0 u _) λV hbc=> ?_)
    |(have hh:= ‹BW w _/\_<_/\_›;obtain⟨u0,k0⟩:=zT.1 (hh.2.2.2.2.1 0 UN);obtain⟨u1,k1⟩:=zT.1 (hh.2.2.2.2.1 1 UN);obtain⟨u2,af⟩:=zT.1 (hh.2.2.2.2.1 2 UN);go_simp))
 have ad:=(‹BW w _/\_<_/\_›).1;obtain⟨ag,r1,r2⟩:=lV (x:= U2 (ig a m)) (y:= U2 (ig b m)) (z:= U2 (ig c m)) k0 k1 af;go_wp2_with fail;refine iQ (v:= .agg #[(ig a m),(ig b m),(ig c m)]) (by simp [results,results369,go_sem,ag,r1,r2]) rfl ⟨?_,ad⟩;unfold tM;rw [Y.o]
structure og where
 g6:Int
 p0:Int
 p1:Int
 ha:List Int
structure jO where
 g5:Int
 marks:List Int
 outs:List og
 iK:Int
 wd:Int
 jn:Int
 acc:Int
 e':Int
 exp:Int
 proof:List Int
abbrev jQ (t:jO)(ma:UP)(mc:Nat)(oa:UP)(oc:Nat)(pa:UP)(pc:Nat):Array Value:= #[U2 t.g5,.slice ma t.marks.length mc,.slice oa t.outs.length oc,U2 t.iK,U2 t.wd,U2 t.jn,U2 t.acc,U2 t.e',UZ t.exp,.slice pa t.proof.length pc]
abbrev ib:kS Int:=j9 .u64
abbrev gZ:kS (List Int):=g4 ib
abbrev hD:kS (List Int):=g4 (j9 .u8)
def qL:kS og:=zj (λo=>(o.g6,(o.p0,o.p1),o.ha)) (jB ib (jB (jB ib ib) gZ))
theorem qL.n:qL.n=4:=rfl
abbrev mK:kS (List og):=g4 qL
def zI:kS jO:=zj (λt=>(t.g5,t.marks,t.outs,t.iK,t.wd,t.jn,t.acc,t.e',t.exp,t.proof))
 (jB ib (jB gZ (jB mK (jB ib (jB ib (jB ib (jB ib (jB ib (jB (j9 .i64) hD)))))))))
theorem zI.n:zI.n=10:=rfl
abbrev iZ (x:Int):Prop:=(Lit.int .u64 x).wf=true
theorem nW {α:Type}{r:kS α}{S:UO}{w:World}{cs:List Value}{xs:List α}(h:(g4 r).rel S w cs xs): ∃a cap,cs= [.slice a xs.length cap]:=by
 obtain⟨a,len,cap,rfl,rfl, -⟩:=h;exact⟨a,cap,rfl⟩
theorem qL.inv {S:UO}{w:World}{cs:List Value}{o:og}(h:qL.rel S w cs o):
 ∃a cap,cs= [U2 o.g6,U2 o.p0,U2 o.p1,.slice a o.ha.length cap]/\iZ o.g6/\iZ o.p0/\iZ o.p1/\gZ.rel S w [.slice a o.ha.length cap] o.ha:=by
 obtain⟨c1,c2,rfl,⟨rfl,w1⟩,d1,y,rfl,⟨z,G,rfl,⟨rfl,w2⟩,⟨rfl,u⟩⟩,j⟩:=h;obtain⟨a,cap,rfl⟩:=nW j;exact⟨a,cap,rfl,w1,w2,u,j⟩
def rp (t:jO)(ma oa pa:UP)(mc oc pc:Nat):List Value:=
 [U2 t.g5,.slice ma t.marks.length mc,.slice oa t.outs.length oc,U2 t.iK,U2 t.wd,U2 t.jn,U2 t.acc,U2 t.e',UZ t.exp,.slice pa t.proof.length pc]
structure ks (S:UO)(w:World)(t:jO)(ma oa pa:UP)(mc oc pc:Nat):Prop where
 g5:iZ t.g5
 iK:iZ t.iK
 wd:iZ t.wd
 jn:iZ t.jn
 acc:iZ t.acc
 e':iZ t.e'
 exp:(Lit.int .i64 t.exp).wf=true
 marks:gZ.rel S w [.slice ma t.marks.length mc] t.marks
 outs:mK.rel S w [.slice oa t.outs.length oc] t.outs
 proof:hD.rel S w [.slice pa t.proof.length pc] t.proof
theorem zI.inv {S:UO}{w:World}{cs:List Value}{t:jO}(h:zI.rel S w cs t): ∃ma oa pa mc oc pc,cs=rp t ma oa pa mc oc pc/\ks S w t ma oa pa mc oc pc:=by
 obtain⟨_,_,rfl,⟨rfl,w1⟩,_,_,rfl,h2,_,_,rfl,u,_,_,rfl,⟨rfl,y⟩,_,_,rfl,⟨rfl,z⟩,_,_,rfl,⟨rfl,G⟩,_,_,rfl,⟨rfl,K⟩,_,_,rfl,⟨rfl,U⟩,_,_,rfl,⟨rfl,V⟩,j⟩:=h;obtain⟨ma,mc,rfl⟩:=nW h2;obtain⟨oa,oc,rfl⟩:=nW u;obtain⟨pa,pc,rfl⟩:=nW j;exact⟨ma,oa,pa,mc,oc,pc,rfl,w1,y,z,G,K,U,V,h2,u,j⟩
theorem ks.keep {S:UO}{w w':World}{t:jO}{ma oa pa:UP}{mc oc pc:Nat}(h:ks S w t ma oa pa mc oc pc)(j:Kept S w w'):ks S w' t ma oa pa mc oc pc:=
 ⟨h.g5,h.iK,h.wd,h.jn,h.acc,h.e',h.exp,gZ.keep h.marks j,mK.keep h.outs j,hD.keep h.proof j⟩
theorem ks.c' {S:UO}{w w':World}{t:jO}{ma oa pa:UP}{mc oc pc:Nat}(h:ks S w t ma oa pa mc oc pc)(j:BW w w'):ks S w' t ma oa pa mc oc pc:=h.keep (Kept.of_below j)
theorem mp {S:UO}{w:World}{a:UP}{len cap:Nat}{l:List og}(h:mK.rel S w [.slice a len cap] l)(k:Nat)(G:k<l.length):
 ∃b off ca cc,a=some ⟨b,off,none⟩/\S b/\b<w.heap.size/\iZ l[k].g6/\iZ l[k].p0/\iZ l[k].p1/\gZ.rel S w [.slice ca l[k].ha.length cc] l[k].ha/\
  w.cell? ⟨b,off+k*4,none⟩=some (U2 l[k].g6)/\w.cell? ⟨b,off+k*4+1,none⟩=some (U2 l[k].p0)/\w.cell? ⟨b,off+k*4+2,none⟩=some (U2 l[k].p1)/\
  w.cell? ⟨b,off+k*4+3,none⟩=some (.slice ca l[k].ha.length cc):=by
 obtain⟨b,off,es,rfl,y,z,hrel,j⟩:=g4.at h k G;obtain⟨ca,cc,rfl,w1,w2,K,u⟩:=qL.inv hrel;rw [qL.n]at j;exact⟨b,off,ca,cc,rfl,y,z,w1,w2,K,u,j 0 _ rfl,j 1 _ rfl,j 2 _ rfl,j 3 _ rfl⟩
def nG (l:List og):Bool:=l.all λo=>decide (o.ha.length<=10)
theorem jW {α:Type}(p:α->Bool)(l:List α)(k:Nat)(h:k<l.length):(l.take (k+1)).all p=((l.take k).all p&&p l[k]):=by
 rw [z4 h,Uf];simp
theorem all_false {α:Type}(p:α->Bool)(l:List α)(k:Nat)(h:k<l.length)(j:p l[k]=false):l.all p=false:=by
 rw [List.all_eq_false];exact⟨l[k],US,by simp [j]⟩
def r' (y:Bool)(st:Int)(p:Nat)(w:World):Prop:=
 ∃mk u j,w.heap[p]? =some (.cells #[y,st,I0,S0,.map (some mk),.map (some u),.map (some j)] 171 (0,0))/\
  w.heap[mk]? =some (.map #[] 0)/\w.heap[u]? =some (.map #[] 0)/\w.heap[j]? =some (.map #[] 0)
theorem r'.c' {u:Bool}{st:Int}{p:Nat}{w w':World}(h:r' u st p w)(j:BW w w'):r' u st p w':=by
 obtain⟨mk,K,G,h1,h2,y,z⟩:=h;exact⟨mk,K,G,b' j h1,b' j h2,b' j y,b' j z⟩
def LV (j:Bool)(st:Int)(w:World)(e:Ending)(w':World):Prop:=
 ∃p,e= .returned (.pointer (some ⟨p,0,none⟩))/\w.heap.size<=p/\r' j st p w'/\BW w w'
theorem C2 (w:World)(a b c d:Obj):((((w.alloc a).alloc b).alloc c).alloc d).heap[w.heap.size+3]? =some d/\((((w.alloc a).alloc b).alloc c).alloc d).heap[w.heap.size+2]? =some c/\
 ((((w.alloc a).alloc b).alloc c).alloc d).heap[w.heap.size+1]? =some b/\((((w.alloc a).alloc b).alloc c).alloc d).heap[w.heap.size]? =some a:=by
 have j:(w.alloc a).heap.size=w.heap.size+1:=U4 ..;have u:((w.alloc a).alloc b).heap.size=w.heap.size+2:=by rw [U4,j]
 have y:(((w.alloc a).alloc b).alloc c).heap.size=w.heap.size+3:=by rw [U4,u]
 exact⟨y▸gY _ d,iq (u▸gY _ c),iq (iq (j▸gY _ b)),iq (iq (iq (gY _ a)))⟩
theorem zB (w:World):Calls prog 65 #[] w (LV false 0 w):=by
 have y:= @xH prog;obtain⟨q1,q2,j,u⟩:=C2 w (.map #[] 0) (.map #[] 0) (.map #[] 0) (.cells #[false,U0,I0,S0,.map (some w.heap.size),.map (some (w.heap.size+1)),.map (some (w.heap.size+2))] 171);obtain⟨Q1,Q2,Q3,Q4⟩:=oX q1 q2 j u;clear q1 q2 j u;go_wp2;go_ret;exact⟨w.heap.size+3,US,UN,⟨_,_,_,Q1.o,Q4.o,Q3.o,Q2.o⟩,hd (hd (hd (hd (g' _ _) _) _) _) _⟩
theorem Ja (w:World):Calls prog 17 #[] w (LV false 0 w):=by
 go_in;go_wp2_with fail;refine(zB w).mono ?_;rintro e w1⟨p,rfl,h1,h2,j⟩;go_wp2;go_ret;exact⟨p,rfl,h1,h2,j⟩
theorem oU (w:World)(p:Nat)(j:Bool)(st:Int)(h:r' j st p w):Calls prog 63 #[.pointer (some ⟨p,0,none⟩)] w λe w'=>e= .returned (.bool j)/\w=w':=by
 obtain⟨mk,G,z,q1,q2,u,y⟩:=h;obtain⟨c0,c1⟩:=a' q1;have k0:=c0 0;simp at k0;clear c0 q1 q2 u y;go_wp2;go_ret;exact⟨rfl,rfl⟩
def hN:Nat->Int->List Int
 |0,_=> []
 |k+1,n=>n % 256::hN k (n / 256)
theorem hA: ∀k n,(hN k n).length=k
 |0,_=>rfl
 |k+1,n=>by simp [hN,hA k]
abbrev ve:kS Int:=j9 .u8
theorem iU:jj prog 52 5 1 1:=jj.of underlying52 (z:= .int .u8 0) UQ rfl UN
theorem iX:jj prog 55 24 1 8:=jj.of underlying55 (z:= U0) UQ rfl UN
def lJ (B:Nat)(w0:World)(ys:List Int)(e:Ending)(w':World):Prop:=
 ∃v',e= .returned v'/\Own ve B 5 (λx=>False\/B<=x) w' v' ys/\Below B w0 w'
theorem oD (w0 w:World) (B:Nat) (G:Below B w0 w) (z:B<=w0.heap.size) (v:Value) (xs:List Int) (ap:Own ve B 5 (λx=>False\/B<=x) w v xs) (n:Int) (ar:0<=n) (n1:n<18446744073709551616) (size:Nat) (ay:size<=8)
 (ax:xs.length<=1000000000):Calls prog 94 #[v,n,UZ size] w (lJ B w0 (xs++hN size n)):=by
 go_wp2
 go_loopw [0,1,8] (λau av y wr=> ∃(k:Nat) (m:Int) (ys:List Int),k<=size/\y= UZ k/\av= U2 m/\0<=m/\m<18446744073709551616/\ys.length=xs.length+k/\Hi (ys++hN (size-k) m=xs++hN size n)/\
  Own ve B 5 (λx=>False\/B<=x) wr au ys/\Below B w0 wr/\B<=wr.heap.size) (λ_ _ y _=>size-(intOf y).toNat)
 case atStart=>exact⟨0,n,xs,iy _,rfl,rfl,ar,n1,rfl,rfl,ap,G,iu z G.size⟩
 case round=>
  obtain⟨k,m,ys,aw,rfl,rfl,az,m1,ad,U,u,K,ao⟩:=hrel;have j:=Hd ad;clear ad;by_cases hlt:k<size
  ·have af:Hi ((ys++ [m % 256])++hN (size-(k+1)) (m / 256)=xs++hN size n):=by
    show _=_;rw [<-U.o,Tt,show size-k=(size-(k+1))+1 by omega];rfl
   have Y:(Lit.int .u8 (m % 256)).wf=true:=by
    simp [Lit.wf,IntKind.min,IntKind.max,IntKind.signed,IntKind.bits];omega
   have ab:ve.rel (λ_=>False) wr [.int .u8 (m % 256)] (m % 256):=⟨rfl,Y⟩;obtain⟨ag,ah⟩:=ik u ab;have aj:0<=m / 256:=UN;have ak:m / 256<18446744073709551616:=UN;clear u ab Y;go_wp2_with (at_builtin;refine km (r:=ve) (wr:=wr) (es:= [.int .u8 (m % 256)]) (v:=u0) (w0:=w0) (B:=B) rfl _ _ rfl iU rfl rfl K ao ag.o ah.o (λx aq=>aq.elim) (by unfold maxLen;have:=j.o;omega) (by have:=j.o;omega) ?_)
   intro v2 w2 V hb2;have ai:=Hd (Own.mono V (F':=λx=>False\/B<=x) λx _ h=>by first|exact h|exact .inr h)
   have al:B<=w2.heap.size:=iu z hb2.size;clear V;go_wp2;go_roundw
   case rel=>exact⟨k+1,m / 256,ys++ [m % 256],UN,by go_num,rfl,aj,ak,by rw [U3,j.o];simp;omega,af,ai.o,hb2,al⟩
   case measure=>exact UY
  ·obtain rfl:k=size:=UN
   have ae:Hi (ys=xs++hN k n):=by
    show _=_;rw [<-U.o,sp];simp [hN]
   go_wp2;go_ret;exact⟨_,rfl,by rw [<-ae.o];exact u,K⟩
structure jZ where
 value:Int
 owner:Int
 jr:Int
 blind:Int
structure iR where
 note:jZ
 key:Int
 number:Int
 hO:Int
 path:List Int
 nE:Bool
abbrev tx (i:iR)(pa:UP)(pc:Nat):Array Value:= #[U2 i.note.value,U2 i.note.owner,U2 i.note.jr,U2 i.note.blind,U2 i.key,UZ i.number,UZ i.hO,.slice pa i.path.length pc,.bool i.nE]
structure po where
 ins:List iR
 outs:List jZ
 hU:Int
structure zK where
 depth:Int
 g5:Int
 marks:List Int
 iJ:List Int
 li:List Int
 iK:Int
 wd:Int
 jn:Int
 acc:Int
 bind:Int
abbrev qr (j:Int)(s:zK)(ma:UP)(mc:Nat)(ca:UP)(cc:Nat)(ra:UP)(rc:Nat):Array Value:= #[UZ j,U2 s.g5,.slice ma s.marks.length mc,.slice ca s.iJ.length cc,.slice ra s.li.length rc,U2 s.iK,U2 s.wd,U2 s.jn,U2 s.acc,U2 s.bind]
def nP:kS jZ:=zj (λn=>(n.value,n.owner,n.jr,n.blind)) (jB ib (jB ib (jB ib ib)))
theorem nP.n:nP.n=4:=rfl
abbrev i6:kS (List jZ):=g4 nP
def mH:kS iR:=zj (λs=>(s.note,s.key,s.number,s.hO,s.path,s.nE)) (jB nP (jB ib (jB (j9 .i64) (jB (j9 .i64) (jB gZ Io)))))
theorem mH.n:mH.n=9:=rfl
abbrev h8:kS (List iR):=g4 mH
abbrev zf (x:Int):Prop:=(Lit.int .i64 x).wf=true
theorem iE {x:Int}(h:iZ x):0<=x/\x<18446744073709551616:=by
 simp [iZ,Lit.wf,IntKind.min,IntKind.max,IntKind.signed,IntKind.bits]at h;omega
theorem ir {x:Int}(j:0<=x)(h1:x<18446744073709551616):iZ x:=by
 simp [iZ,Lit.wf,IntKind.min,IntKind.max,IntKind.signed,IntKind.bits];omega
theorem xP {x:Int}(h:zf x): -9223372036854775808<=x/\x<9223372036854775808:=by
 simp [zf,Lit.wf,IntKind.min,IntKind.max,IntKind.signed,IntKind.bits]at h;omega
theorem nw {x:Int}(j: -9223372036854775808<=x)(h1:x<9223372036854775808):zf x:=by
 simp [zf,Lit.wf,IntKind.min,IntKind.max,IntKind.signed,IntKind.bits];omega
theorem Em {x:Int}(h:(Lit.int .u8 x).wf=true):0<=x/\x<256:=by
 simp [Lit.wf,IntKind.min,IntKind.max,IntKind.signed,IntKind.bits]at h;omega
structure nU (n:jZ):Prop where
 value:iZ n.value
 owner:iZ n.owner
 jr:iZ n.jr
 blind:iZ n.blind
theorem nP.inv {S:UO}{w:World}{cs:List Value}{n:jZ}(h:nP.rel S w cs n):cs= [U2 n.value,U2 n.owner,U2 n.jr,U2 n.blind]/\nU n:=by
 obtain⟨_,_,rfl,⟨rfl,w1⟩,_,_,rfl,⟨rfl,w2⟩,_,_,rfl,⟨rfl,j⟩,⟨rfl,u⟩⟩:=h;exact⟨rfl,w1,w2,j,u⟩
theorem nP.mk {S:UO}{w:World}{n:jZ}(h:nU n):nP.rel S w [n.value,n.owner,n.jr,n.blind] n:=
 ⟨[_],[_,_,_],rfl,⟨rfl,h.value⟩,[_],[_,_],rfl,⟨rfl,h.owner⟩,[_],[_],rfl,⟨rfl,h.jr⟩,⟨rfl,h.blind⟩⟩
structure qk (s:iR):Prop where
 note:nU s.note
 key:iZ s.key
 number:zf s.number
 hO:zf s.hO
def rz (s:iR)(a:UP)(cap:Nat):List Value:=
 [U2 s.note.value,U2 s.note.owner,U2 s.note.jr,U2 s.note.blind,U2 s.key,UZ s.number,UZ s.hO,.slice a s.path.length cap,.bool s.nE]
theorem mH.inv {S:UO}{w:World}{cs:List Value}{s:iR}(h:mH.rel S w cs s): ∃a cap,cs=rz s a cap/\qk s/\gZ.rel S w [.slice a s.path.length cap] s.path:=by
 obtain⟨c1,_,rfl,h1,_,_,rfl,⟨rfl,w2⟩,_,_,rfl,⟨rfl,y⟩,_,_,rfl,⟨rfl,z⟩,_,_,rfl,j,rfl⟩:=h;obtain⟨rfl,u⟩:=nP.inv h1;obtain⟨a,cap,rfl⟩:=nW j;exact⟨a,cap,rfl,⟨u,w2,y,z⟩,j⟩
theorem mH.mk {S:UO}{w:World}{s:iR}{a:UP}{cap:Nat}(h:qk s)(j:gZ.rel S w [.slice a s.path.length cap] s.path):mH.rel S w (rz s a cap) s:=
 ⟨[_,_,_,_],[_,_,_,_,_],rfl,nP.mk h.note,[_],[_,_,_,_],rfl,⟨rfl,h.key⟩,[_],[_,_,_],rfl,⟨rfl,h.number⟩,[_],[_,_],rfl,⟨rfl,h.hO⟩,[_],[_],rfl,j,rfl⟩
theorem il {S:UO}{w:World}{a:UP}{len cap:Nat}{l:List Int}(h:gZ.rel S w [.slice a len cap] l)(k:Nat)(y:k<l.length):
 ∃b off,a=some ⟨b,off,none⟩/\b<w.heap.size/\0<=l[k]/\l[k]<18446744073709551616/\w.cell? ⟨b,off+k,none⟩=some (U2 l[k]):=by
 obtain⟨b,off,es,rfl,z,j,⟨rfl,hw⟩,u⟩:=g4.at h k y;have:=u 0 _ rfl;have h2:=iE hw;exact⟨b,off,rfl,j,h2.1,h2.2,by simpa [j9]using this⟩
theorem F7 {S:UO}{w:World}{a:UP}{len cap:Nat}{l:List Int}(h:gZ.rel S w [.slice a len cap] l): ∀x∈l,0<=x/\x<18446744073709551616:=by
 intro x u;obtain⟨k,j,rfl⟩:=TH u;obtain⟨b,off, -, -,h1,h2, -⟩:=il h k j;exact⟨h1,h2⟩
theorem bytes_at {S:UO}{w:World}{a:UP}{len cap:Nat}{l:List Int}(h:hD.rel S w [.slice a len cap] l)(k:Nat)(z:k<l.length):
 ∃b off,a=some ⟨b,off,none⟩/\b<w.heap.size/\S b/\0<=l[k]/\l[k]<256/\w.cell? ⟨b,off+k,none⟩=some (.int .u8 l[k]):=by
 obtain⟨b,off,es,rfl,j,u,⟨rfl,hw⟩,y⟩:=g4.at h k z;have:=y 0 _ rfl;have h2:=Em hw;exact⟨b,off,rfl,u,j,h2.1,h2.2,by simpa [j9]using this⟩
theorem qX {S:UO}{w:World}{a:UP}{len cap:Nat}{l:List jZ}(h:i6.rel S w [.slice a len cap] l)(k:Nat)(y:k<l.length):
 ∃b off,a=some ⟨b,off,none⟩/\b<w.heap.size/\nU l[k]/\w.cell? ⟨b,off+k*4,none⟩=some (U2 l[k].value)/\w.cell? ⟨b,off+k*4+1,none⟩=some (U2 l[k].owner)/\
  w.cell? ⟨b,off+k*4+2,none⟩=some (U2 l[k].jr)/\w.cell? ⟨b,off+k*4+3,none⟩=some (U2 l[k].blind):=by
 obtain⟨b,off,es,rfl,G,u,hrel,j⟩:=g4.at h k y;obtain⟨rfl,z⟩:=nP.inv hrel;rw [nP.n]at j;exact⟨b,off,rfl,u,z,j 0 _ rfl,j 1 _ rfl,j 2 _ rfl,j 3 _ rfl⟩
theorem ow {S:UO}{w:World}{a:UP}{len cap:Nat}{l:List iR}(h:h8.rel S w [.slice a len cap] l)(k:Nat)(y:k<l.length):
 ∃b off pa pc,a=some ⟨b,off,none⟩/\b<w.heap.size/\qk l[k]/\gZ.rel S w [.slice pa l[k].path.length pc] l[k].path/\
  w.cell? ⟨b,off+k*9,none⟩=some (U2 l[k].note.value)/\w.cell? ⟨b,off+k*9+1,none⟩=some (U2 l[k].note.owner)/\
  w.cell? ⟨b,off+k*9+2,none⟩=some (U2 l[k].note.jr)/\w.cell? ⟨b,off+k*9+3,none⟩=some (U2 l[k].note.blind)/\
  w.cell? ⟨b,off+k*9+4,none⟩=some (U2 l[k].key)/\w.cell? ⟨b,off+k*9+5,none⟩=some (UZ l[k].number)/\
  w.cell? ⟨b,off+k*9+6,none⟩=some (UZ l[k].hO)/\w.cell? ⟨b,off+k*9+7,none⟩=some (.slice pa l[k].path.length pc)/\
  w.cell? ⟨b,off+k*9+8,none⟩=some (.bool l[k].nE):=by
 obtain⟨b,off,es,rfl,K,u,hrel,j⟩:=g4.at h k y;obtain⟨pa,pc,rfl,z,G⟩:=mH.inv hrel;rw [mH.n]at j;exact⟨b,off,pa,pc,rfl,u,z,G,j 0 _ rfl,j 1 _ rfl,j 2 _ rfl,j 3 _ rfl,j 4 _ rfl,j 5 _ rfl,j 6 _ rfl,j 7 _ rfl,j 8 _ rfl⟩
def jN (s:T3):List Int->T3
 | []=>s
 | [x]=>kh (ig s.1 x,s.2.1,s.2.2)
 |x::y::r=>jN (kh (ig s.1 x,ig s.2.1 y,s.2.2)) r
def ly (label:Int)(n:Nat):T3:=(0,0,ig (kM label 65536) n)
def kv (label:Int)(l:List Int):T3:=if l.length=0 then kh (ly label 0)else jN (ly label l.length) l
def iD (label:Int)(l:List Int):Int:=(kv label l).1
theorem x8 (s:T3):0<=(kh s).1/\(kh s).1<18446744069414584321:=Bn _ _
theorem nI (s:T3):jT (kh s):=yH _
theorem y1: ∀(s:T3) (l:List Int),l≠ []->0<=(jN s l).1/\(jN s l).1<18446744069414584321
 |_,[],h=>absurd rfl h
 |_,[_],_=>x8 _
 |_,[_,_],_=>x8 _
 |_,_::_::z::r,_=>y1 _ (z::r) US
theorem nX (label:Int)(l:List Int):0<=iD label l/\iD label l<18446744069414584321:=by
 unfold iD kv;split
 ·exact x8 _
 ·exact y1 _ _ (λh=>by simp [h]at*)
theorem tj (label:Int)(n:Nat):jT (ly label n):=by
 have:=jY (kM label 65536) n;unfold jT ly;simp;omega
theorem tb (s:T3)(l:List Int)(i:Nat)(h:i+1<l.length):jN s (l.drop i)=jN (kh (ig s.1 l[i],ig s.2.1 l[i+1],s.2.2)) (l.drop (i+2)):=by
 rw [TU (show i<l.length by omega),TU h];rfl
theorem td (s:T3)(l:List Int)(i:Nat)(h:i<l.length)(h2:l.length<=i+1):jN s (l.drop i)=kh (ig s.1 l[i],s.2.1,s.2.2):=by
 rw [TU h,TM h2];rfl
def nh:List Int->Int
 | []=>0
 |d::r=>d+256*nh r
theorem uF: ∀(l:List Int) (d:Int),nh (l++ [d])=nh l+d*256^l.length
 | [],d=>by simp [nh]
 |x::l,d=>by
  simp only [List.cons_append,nh,uF l d,Tz,qR];rw [Int.mul_add,<-Cb,Int.mul_comm 256 d,Cb,Int.mul_comm 256 (256^l.length),Int.add_assoc]
theorem qx: ∀(l:List Int),(∀d∈l,0<=d/\d<256)->0<=nh l/\nh l<256^l.length
 | [],_=>by simp [nh]
 |x::l,h=>by
  have h1:=h x US;have h2:=qx l λd j=>h d (by simp [j]);simp only [nh,Tz,qR];omega
open Go.Sort
def PermAt (w:World)(s:T3)(wr:World):Prop:=
 BW w wr/\wr.heap[w.heap.size]? =some (.cells #[s.1,s.2.1,s.2.2] 230 (0,0))/\
  wr.heap[w.heap.size+1]? =some (.cells #[U0,U0,U0] 230 (0,0))/\wr.heap[w.heap.size+2]? =some (.cells #[U2 18446744069414584321] 305 (0,0))
theorem PermAt.next {w w1 w2:World}{s:T3}(h:PermAt w s w1)(j:BW w1 w2):PermAt w s w2:=
 ⟨d' h.1 j,b' j h.2.1,b' j h.2.2.1,b' j h.2.2.2⟩
theorem PermAt.start (w:World)(s:T3):PermAt w s (((w.alloc (.cells #[s.1,s.2.1,s.2.2] 230)).alloc (.cells #[U0,U0,U0] 230)).alloc (.cells #[U2 18446744069414584321] 305)):=by
 obtain⟨q1,q2,j⟩:=lb w (.cells #[s.1,s.2.1,s.2.2] 230) (.cells #[U0,U0,U0] 230) (.cells #[U2 18446744069414584321] 305);exact⟨hd (hd (hd (g' _ _) _) _) _,j,q2,q1⟩
theorem PermAt.store {w wr:World}{s:T3}(h:PermAt w s wr)(t:T3):PermAt w t (((wr.setCell ⟨w.heap.size,0,none⟩ (U2 t.1)).setCell ⟨w.heap.size,1,none⟩ (U2 t.2.1)).setCell ⟨w.heap.size,2,none⟩ (U2 t.2.2)):=by
 obtain⟨h1,h2,u,y⟩:=h;refine⟨((h1.setCell (g9 _) _).setCell (g9 _) _).setCell (g9 _) _,h6 (h6 (h6 h2)),?_,?_⟩
 ·have j:w.heap.size+1≠w.heap.size:=UN
  exact hB (hB (hB u j) j) j
 ·have j:w.heap.size+2≠w.heap.size:=UN
  exact hB (hB (hB y j) j) j
theorem PermAt.one {w wr:World}{s t:T3}(h:PermAt w s wr)(i:Nat)(v:Value)(ht:(#[s.1,s.2.1,s.2.2]:Array Value).setIfInBounds i v= #[U2 t.1,U2 t.2.1,U2 t.2.2]):PermAt w t (wr.setCell ⟨w.heap.size,i,none⟩ v):=by
 obtain⟨h1,h2,u,y⟩:=h;refine⟨h1.setCell (g9 _) _,ht▸h6 h2,?_,?_⟩
 ·have j:w.heap.size+1≠w.heap.size:=UN
  exact hB u j
 ·have j:w.heap.size+2≠w.heap.size:=UN
  exact hB y j
theorem PermAt.drew {w wr:World}{s:T3}(h:PermAt w s wr):PermAt w s wr.drew:=⟨h.1.drew,h.2.1,h.2.2.1,h.2.2.2⟩
theorem pF (r i:Int):0<=oZ r i:=by unfold oZ;exact(oE _).1
def zP (r:Int)(s:T3):Nat->T3
 |0=>s
 |1=>(lT r 0 s.1,s.2.1,s.2.2)
 |2=>(lT r 0 s.1,lT r 1 s.2.1,s.2.2)
 |_=>(lT r 0 s.1,lT r 1 s.2.1,lT r 2 s.2.2)
theorem sU (s:T3)(aq:jT s)(w:World):
 Calls prog 298 #[U2 18446744069414584321,.agg #[s.1,s.2.1,s.2.2]] w
  (Rt w (.agg #[U2 (kh s).1,U2 (kh s).2.1,U2 (kh s).2.2])):=by
 obtain⟨ar,au⟩:=ik (PermAt.start w s) (uS aq);clear aq;go_in;go_wp2_with fail;refine UR (pA _) λw1 hb1=> ?_;have h1:=ar.o.next hb1;obtain⟨U,ah⟩:=a' h1.2.2.2;go_wp2_with fail;refine UR (BL _) λw2 hb2=> ?_;have h2:=h1.next hb2;clear U ah h1 ar hb1 hb2;go_wp2;go_loopw [17] (λi wr=> ∃k:Nat,k<=8/\i= UZ k/\PermAt w (mY s k) wr) (λi _=>8-(intOf i).toNat)
 case atStart=>exact⟨0,UN,rfl,h2⟩
 case round=>
  obtain⟨k,aC,rfl,ai⟩:=hrel;clear h2;by_cases hlt:k<8
  ·have al:=au.o k
   have hsucc:Hi (mY s (k+1)=tM (zP k (mY s k) 3)):=rfl;generalize mY s k=t at*
   have ao:(0:Int)<=(k:Int):=UN;have n1:(k:Int)<8:=UN;go_wp2;go_loopw [20] (λi wr=> ∃j:Nat,j<=3/\i= UZ j/\PermAt w (zP k t j) wr) (λi _=>3-(intOf i).toNat)
   case atStart=>exact⟨0,UN,rfl,ai⟩
   case round=>
    obtain⟨j,az,rfl,Y⟩:=hrel;clear ai;by_cases aA:j<3
    ·have hcase:j=0\/j=1\/j=2:=by omega
     rcases hcase with ap|ap|ap
     ·obtain rfl:j=0:=UN
      have G:PermAt w (t.1,t.2.1,t.2.2) wr:=Y;have HQ:=Hd G;have U:=g0 G.2.1;have ab:=g0 G.2.2.2;clear Y G;have ag:0<=t.1:=(by unfold jT at al;omega);have af:=pF k 0;have ae:=jY t.1 (oZ k 0);go_wp2_with fail;refine hI 14 UQ UQ ?_;simp only [Tr,U6,Ty,Tg]
      repeat (quiet_step (first
       |exact ie (rR k 0 ao n1 UN UN _)
       |exact ie (mq t.1 (oZ k 0) ag af _)
       |exact ie (Bp (ig t.1 (oZ k 0)) ae.1 7 UN _)))
      refine lz ?_;intro wq hbq;clear U ab;have K:=PermAt.next HQ.o hbq;obtain⟨c0,c1⟩:=a' K.2.1;have V:=Hd (PermAt.one (t:=(lT k 0 t.1,t.2.1,t.2.2)) K 0 (U2 (lT k 0 t.1)) rfl);clear K;unfold lT at V;go_wp2;go_roundw
      case rel=>exact⟨1,UN,by go_num,V.o⟩
      case measure=>simp [intOf]
     ·obtain rfl:j=1:=UN
      have G:PermAt w (lT k 0 t.1,t.2.1,t.2.2) wr:=Y;have HQ:=Hd G;have U:=g0 G.2.1;have ab:=g0 G.2.2.2;clear Y G;have ag:0<=t.2.1:=(by unfold jT at al;omega);have af:=pF k 1;have ae:=jY t.2.1 (oZ k 1);go_wp2_with fail;refine hI 14 UQ UQ ?_;simp only [Tr,U6,Ty,Tg]
      repeat (quiet_step (first
       |exact ie (rR k 1 ao n1 UN UN _)
       |exact ie (mq t.2.1 (oZ k 1) ag af _)
       |exact ie (Bp (ig t.2.1 (oZ k 1)) ae.1 7 UN _)))
      refine lz ?_;intro wq hbq;clear U ab;have K:=PermAt.next HQ.o hbq;obtain⟨c0,c1⟩:=a' K.2.1;have V:=Hd (PermAt.one (t:=(lT k 0 t.1,lT k 1 t.2.1,t.2.2)) K 1 (U2 (lT k 1 t.2.1)) rfl);clear K;unfold lT at V;go_wp2;go_roundw
      case rel=>exact⟨2,UN,by go_num,V.o⟩
      case measure=>simp [intOf]
     ·obtain rfl:j=2:=UN
      have G:PermAt w (lT k 0 t.1,lT k 1 t.2.1,t.2.2) wr:=Y;have HQ:=Hd G;have U:=g0 G.2.1;have ab:=g0 G.2.2.2;clear Y G;have ag:0<=t.2.2:=(by unfold jT at al;omega);have af:=pF k 2;have ae:=jY t.2.2 (oZ k 2);go_wp2_with fail;refine hI 14 UQ UQ ?_;simp only [Tr,U6,Ty,Tg]
      repeat (quiet_step (first
       |exact ie (rR k 2 ao n1 UN UN _)
       |exact ie (mq t.2.2 (oZ k 2) ag af _)
       |exact ie (Bp (ig t.2.2 (oZ k 2)) ae.1 7 UN _)))
      refine lz ?_;intro wq hbq;clear U ab;have K:=PermAt.next HQ.o hbq;obtain⟨c0,c1⟩:=a' K.2.1;have V:=Hd (PermAt.one (t:=(lT k 0 t.1,lT k 1 t.2.1,lT k 2 t.2.2)) K 2 (U2 (lT k 2 t.2.2)) rfl);clear K;unfold lT at V;go_wp2;go_roundw
      case rel=>exact⟨3,UN,by go_num,V.o⟩
      case measure=>simp [intOf]
    ·obtain rfl:j=3:=UN
     have HQ:=Hd Y;obtain⟨U,ah⟩:=a' Y.2.1;clear Y;generalize aj:zP k t 3=u at*;have ax:=Hd aj;have ak:0<=u.1/\0<=u.2.1/\0<=u.2.2:=by
      rw [<-aj];exact⟨(m8 _ _ _).1,(m8 _ _ _).1,(m8 _ _ _).1⟩
     clear aj;go_wp2_with fail;refine UR (KM u.1 u.2.1 u.2.2 ak.1 ak.2.1 ak.2.2 _) λaD hb3=> ?_;have ad:=HQ.o.next hb3;clear U ah;obtain⟨U,ah⟩:=a' ad.2.1;have V:=Hd (PermAt.store ad (tM (u.1,u.2.1,u.2.2)));clear ad;go_wp2;go_roundw
     case rel=>exact⟨k+1,UN,by go_num,by rw [hsucc.o];exact V.o⟩
     case measure=>exact UY
  ·obtain rfl:k=8:=UN
   obtain⟨h1,h2,ad,ay⟩:=ai;obtain⟨U,ah⟩:=a' h2;obtain⟨ab,aE⟩:=a' ad;have av:Hi (kh s=mY s 8):=rfl;generalize mY s 8=t at*;obtain⟨aw,r1,r2⟩:=lV (x:= U2 t.1) (y:= U2 t.2.1) (z:= U2 t.2.2) (ab 0) (ab 1) (ab 2);go_wp2_with fail;refine iQ (v:= .agg #[t.1,t.2.1,t.2.2]) (by simp [results,results298,go_sem,aw,r1,r2]) rfl ⟨by rw [av.o],?_⟩;exact((h1.setCell (o9 _) _).setCell (o9 _) _).setCell (o9 _) _
end Go.Proofs.YtjdiofjjoefnhaaGreatDoor
