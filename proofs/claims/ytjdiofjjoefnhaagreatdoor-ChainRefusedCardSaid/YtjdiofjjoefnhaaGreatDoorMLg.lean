/- The ledger of the program: accounts; the search. -/
import Derived.Test.YtjdiofjjoefnhaaGreatDoorMFr
set_option maxRecDepth 100000
set_option maxHeartbeats 2000000
namespace Go.Proofs.YtjdiofjjoefnhaaGreatDoor
open Tryz Go.ChangeShapes Go.WideShapes Go.ChangeAt Go.RowKit Go.Sort
structure lK where
 id:Int
 jD:Int
 e':Int
def uf:kS lK:=zj (λn=>(n.id,n.jD,n.e')) (jB ib (jB ib ib))
theorem uf.n:uf.n=3:=rfl
abbrev ih:kS (List lK):=g4 uf
structure vr (x:lK):Prop where
 id:iZ x.id
 jD:iZ x.jD
 e':iZ x.e'
theorem uf.inv {S:UO}{w:World}{cs:List Value}{n:lK}(h:uf.rel S w cs n):cs= [U2 n.id,U2 n.jD,U2 n.e']/\vr n:=by
 obtain⟨_,_,rfl,⟨rfl,w1⟩,_,_,rfl,⟨rfl,w2⟩,⟨rfl,j⟩⟩:=h;exact⟨rfl,w1,w2,j⟩
theorem uf.mk {S:UO}{w:World}{n:lK}(h:vr n):uf.rel S w [n.id,n.jD,n.e'] n:=
 ⟨[_],[_,_],rfl,⟨rfl,h.id⟩,[_],[_],rfl,⟨rfl,h.jD⟩,⟨rfl,h.e'⟩⟩
theorem o6 {S:UO}{w:World}{a:UP}{len cap:Nat}{l:List lK}(h:ih.rel S w [.slice a len cap] l)(k:Nat)(z:k<l.length):
 ∃b off,a=some ⟨b,off,none⟩/\b<w.heap.size/\S b/\vr l[k]/\w.cell? ⟨b,off+k*3,none⟩=some (U2 l[k].id)/\w.cell? ⟨b,off+k*3+1,none⟩=some (U2 l[k].jD)/\w.cell? ⟨b,off+k*3+2,none⟩=some (U2 l[k].e'):=by
 obtain⟨b,off,es,rfl,u,y,hrel,j⟩:=g4.at h k z;obtain⟨rfl,ok⟩:=uf.inv hrel;rw [uf.n]at j;exact⟨b,off,rfl,y,u,ok,j 0 _ rfl,j 1 _ rfl,j 2 _ rfl⟩
def tQ (a b:Int):Int:=if a<b then -1 else if b<a then 1 else 0
theorem Aq (w:World)(a:Int):Calls prog 289 #[a] w (Rt w (.bool false)):=by
 have z:(a != a)=false:=US
 go_wp2;go_ret;exact⟨rfl,g' _ _⟩
theorem DU (w:World)(a b:Int):Calls prog 355 #[a,b] w (Rt w (UZ (tQ a b))):=by
 have HC:Hi (tQ a b=if a<b then -1 else if b<a then 1 else 0):=rfl;go_in;go_wp2_with fail;refine UR (Aq w a) λw1 hb1=> ?_;go_wp2_with fail;refine UR (Aq w1 b) λw2 hb2=> ?_;have u:=d' hb1 hb2;by_cases h1:a<b
 ·have j:Hi (tQ a b= -1):=by show _=_;rw [HC.o,g7 h1]
  go_wp2;go_ret;exact⟨g2 j.o.symm,u⟩
 ·by_cases h2:b<a
  ·have j:Hi (tQ a b=1):=by show _=_;rw [HC.o,g3 h1,g7 h2]
   go_wp2;go_ret;exact⟨g2 j.o.symm,u⟩
  ·have j:Hi (tQ a b=0):=by show _=_;rw [HC.o,g3 h1,g3 h2]
   go_wp2;go_ret;exact⟨g2 j.o.symm,u⟩
theorem Av (w:World)(x:lK)(id:Int):Calls prog 354 #[.agg #[x.id,x.jD,x.e'],id] w (Rt w (UZ (tQ x.id id))):=by
 obtain⟨u,j⟩:=ik (gY w (.cells #[x.id,x.jD,x.e'] 115)) (jc w (.cells #[x.id,x.jD,x.e'] 115));go_in;go_upto_region 1 with(fail);generalize w.alloc (.cells #[x.id,x.jD,x.e'] 115)=W at*;obtain⟨y,z⟩:=a' u.o;go_wp2_with fail;refine UR (DU W x.id id) λw1 hb1=> ?_;go_wp2;go_ret;exact⟨rfl,d' j.o hb1⟩
def lG:List lK->Int->Nat
 | [],_=>0
 |x::l,id=>if x.id<id then lG l id+1 else 0
theorem Bc: ∀(l:List lK) (id:Int),lG l id<=l.length
 | [],_=>g9 _
 |x::l,id=>by
  unfold lG;split
  ·have:=Bc l id;simp;omega
  ·omega
theorem xl: ∀(l:List lK) (id:Int) (i:Nat),i<=l.length->(∀m (j:m<l.length),m<i->l[m].id<id)->(∀j:i<l.length,¬l[i].id<id)->lG l id=i
 | [],_,i,h,_,_=>by simp at h;subst h;rfl
 |x::l,id,0,_,_,h2=>by
  have:=h2 US;unfold lG;rw [g3 (by simpa using this)]
 |x::l,id,i+1,h,h1,h2=>by
  have u:=h1 0 US UN;have y:=xl l id i (by simp at h;omega) (λm j hi=>by have:=h1 (m+1) (by simp;omega) UN;simpa using this) (λj=>by have:=h2 (by simp;omega);simpa using this);unfold lG;rw [g7 (by simpa using u),y]
def j7 (l:List lK)(id:Int):Bool:=(l[lG l id]?.map λx=>x.id==id).getD false
abbrev vd (l:List lK):Prop:=l.Pairwise λx y=>x.id<y.id
theorem DY (S:UO)(w:World)(a:UP)(cap:Nat)(l:List lK)(h:ih.rel S w [.slice a l.length cap] l)(aD:l.length<=1000000)(ao:vd l)(id:Int):
 Calls prog 353 #[.slice a l.length cap,id,.func (Fn.func 354) #[] #[]] w (Rt w (.tuple #[UZ (lG l id),(j7 l id)])):=by
 obtain⟨H,ah⟩:=ik h (TP.1 ao);clear h ao;go_wp2;go_loopw [9,10] (λae af wr=> ∃(i j:Nat),ae= UZ i/\af= UZ j/\i<=j/\j<=l.length/\Hi (∀m (u:m<l.length),m<i->l[m].id<id)/\Hi (∀m (u:m<l.length),j<=m->id<=l[m].id)/\BW w wr) (λae af _=>(intOf af).toNat-(intOf ae).toNat)
 case atStart=>exact⟨0,l.length,rfl,rfl,iy _,g9 _,λm u hi=>UN,λm u hi=>UN,g' _ _⟩
 case round=>
  obtain⟨i,j,rfl,rfl,aC,ak,al,aj,G⟩:=hrel;by_cases hlt:i<j
  ·obtain⟨m,u⟩:=iF ((i+j) / 2)
   have ad:m<l.length:=UN;have aE:i<=m/\m<j:=UN;have ap:wrap64 ((i:Int)+j)=(i:Int)+j:=(by unfold wrap64;omega);have aq:IntKind.u64.wrap ((i:Int)+j)=(i:Int)+j:=(by rw [jP];omega);have ai:((i:Int)+j) / 2=(m:Int):=UN;have ar:IntKind.i64.wrap (m:Int)=m:=(by rw [rX];omega);obtain⟨b,off,rfl,aw, -,ay,c0,c1,c2⟩:=o6 ((ih).c' H.o G) m ad;have av:Hi (l[m].id<id-> ∀k (K:k<l.length),k<m+1->l[k].id<id):=λhh k K ax=>by
    rcases kZ k m with h|h
    ·have:=ah.o k m K ad h;omega
    ·obtain rfl:k=m:=UN
     exact hh
   have au:Hi (id<=l[m].id-> ∀k (K:k<l.length),m<=k->id<=l[k].id):=λhh k K ax=>by
    rcases kZ m k with h|h
    ·have:=ah.o m k ad K h;omega
    ·obtain rfl:k=m:=UN
     exact hh
   have aA:=Hd u;clear u;generalize l[m]=x at*;go_wp2_with fail;refine UR (Av wr x id) λaz hb3=> ?_;have y:=Hd (d' G hb3);have z:Hi (tQ x.id id<0↔x.id<id):=by
    show _↔_;unfold tQ;split
    ·omega
    ·split<;>omega
   clear G hb3 c0 c1 c2;by_cases U:x.id<id
   ·have HQ:=Hd (av.o U)
    have ab:tQ x.id id<0:=z.o.2 U;obtain⟨r,hr⟩:=iF (tQ x.id id);rw [hr]at ab⊢;clear hr U ai ap aq ar;go_wp2;go_roundw
    case rel=>exact⟨m+1,j,by go_num,rfl,UN,ak,HQ.o,aj.o,y.o⟩
    case measure=>exact UY
   ·have HQ:=Hd (au.o UN)
    have ab: ¬tQ x.id id<0:=λhh=>U (z.o.1 hh);obtain⟨r,hr⟩:=iF (tQ x.id id);rw [hr]at ab⊢;clear hr U ai ap aq ar;go_wp2;go_roundw
    case rel=>exact⟨i,m,rfl,rfl,UN,UN,al.o,HQ.o,y.o⟩
    case measure=>exact UY
  ·obtain rfl:i=j:=UN
   have Y:Hi (lG l id=i):=xl l id i ak (λm u hi=>al.o m u hi) λu=>(by have:=aj.o i u (g9 _);omega);have ag:Hi (j7 l id=(l[i]?.map λx=>x.id==id).getD false):=Hd (by unfold j7;rw [Y.o]);have y:=Hd G;clear G;by_cases hlt2:i<l.length
   ·obtain⟨b,off,rfl,aw, -,ay,c0,c1,c2⟩:=o6 ((ih).c' H.o y.o) i hlt2
    have V:Hi (j7 l id=(l[i].id==id)):=Hd (by rw [ag.o,z2 hlt2];rfl);generalize l[i]=x at*;go_wp2_with fail;refine UR (Av wr x id) λaz hb3=> ?_;have z:Hi ((tQ x.id id==0)=(x.id==id)):=by
     show _=_;rw [oK,iO,iO];unfold tQ;split
     ·omega
     ·split<;>omega
    clear c0 c1 c2;obtain⟨r,hr⟩:=iF (tQ x.id id);rw [hr]at z⊢;clear hr;go_wp2;go_ret2;exact⟨by rw [Y.o,V.o,<-z.o];rfl,d' y.o hb3⟩
   ·have V:Hi (j7 l id=false):=by show _=_;rw [ag.o,TA UN];rfl
    go_wp2;go_ret2;exact⟨by rw [Y.o,V.o];rfl,y.o⟩
theorem Ap (S:UO)(w:World)(a:UP)(cap:Nat)(l:List lK)(h:ih.rel S w [.slice a l.length cap] l)(z:l.length<=1000000)(G:vd l)(id:Int):
 Calls prog 269 #[.agg #[.slice a l.length cap],id] w (Rt w (.tuple #[UZ (lG l id),(j7 l id)])):=by
 have y:=Hd (gY w (.cells #[.slice a l.length cap] 108));have j:=jc w (.cells #[.slice a l.length cap] 108);obtain⟨H,u⟩:=ik ((ih).c' h j) j;clear j h;go_in;go_upto_region 1 with(fail);generalize w.alloc (.cells #[.slice a l.length cap] 108)=W at*;obtain⟨K,U⟩:=a' y.o;go_wp2_with fail;refine UR (DY S W a cap l H.o z G id) λw1 hb1=> ?_;clear K U;go_wp2;go_ret2;exact⟨rfl,d' u.o hb1⟩
def pj (l:List lK)(id:Int):lK:=if j7 l id=true then l.getD (lG l id) ⟨id,0,0⟩else ⟨id,0,0⟩
theorem uH {l:List lK}{id:Int}(h:j7 l id=true):lG l id<l.length:=by
 rcases kZ (lG l id) l.length with hh|hh
 ·exact hh
 ·unfold j7 at h;rw [TA hh]at h;simp at h
theorem CY (S:UO)(w:World)(a:UP)(cap:Nat)(l:List lK)(h:ih.rel S w [.slice a l.length cap] l)(ae:l.length<=1000000)(ag:vd l)(id:Int):
 Calls prog 184 #[.agg #[.slice a l.length cap],id] w (Rt w (.tuple #[U2 (pj l id).jD,U2 (pj l id).e'])):=by
 have K:=Hd (gY w (.cells #[.slice a l.length cap] 108));have y:=jc w (.cells #[.slice a l.length cap] 108);obtain⟨H,G⟩:=ik ((ih).c' h y) y;clear y h;go_in;go_upto_region 1 with(fail);generalize w.alloc (.cells #[.slice a l.length cap] 108)=W at*;obtain⟨z,ah⟩:=a' K.o;go_wp2_with fail;refine UR (Ap S W a cap l H.o ae ag id) λw1 hb1=> ?_;clear z ah;have Y:=Hd (b' hb1 K.o)
 cases j:j7 l id with
 |false=>
  have u:Hi (pj l id=⟨id,0,0⟩):=Hd (by unfold pj;rw [g3 (by rw [j];simp)]);clear j;go_wp2;go_ret2;exact⟨by rw [u.o];rfl,d' G.o hb1⟩
 |true=>
  have U:=uH j;have u:Hi (pj l id=l[lG l id]):=Hd (by unfold pj;rw [g7 j,U5,z2 U];rfl);obtain⟨b,off,rfl,ab, -,af,k0,k1,V⟩:=o6 ((ih).c' H.o hb1) (lG l id) U;clear j af ab;generalize l[lG l id]=x at*;generalize lG l id=p at*;have z:=g0 Y.o;have c1:=hW k1;have c2:=hW V;clear k0 k1 V;go_wp2;refine m6 ?_
  repeat (first|go_big_quiet_step (fail)|quiet_step (fail))
  refine lz ?_;intro wq ad;clear z c1 c2;go_wp2;go_ret2;exact⟨by rw [u.o];rfl,d' G.o (d' hb1 ad)⟩
theorem xS:jj prog 106 115 3 24:=jj.of underlying106 (z:= .agg #[U0,U0,U0]) UQ rfl UN
theorem rq:Plain uf:=λh=>(Plain.pair (Plain.int .u64) (Plain.pair (Plain.int .u64) (Plain.int .u64))) h
theorem JC (a:UP)(l c:Nat)(w:World):(binOp .eql 106 (.slice a l c) S0).run prog w= .ok (.bool a.isNone) w:=by
 simp only [binOp];simp [run_equal_slice_nil w 106 115 a l c underlying106]
theorem sJ {P:Program} {ops:Array Oper} {rest:List Oper} {o:Oper} {a:Act} {Q:Exit->Act->World->Prop} (ad:o.guard=none) (s x:Operand) {t:TypeId}
 (af:o.op= .call { callee:= .builtin .append,args:= #[s,x],argTypes:= #[t,t] }) {α:Type} {r:kS α} (ah:Plain r) {e:TypeId} {bytes:Nat} (U:jj P t e r.n bytes) {S:UO} {B:Nat} {w0 wr:World} {v u:Value} {xs ys:List α}
 (ai:a.eval s=v) (ak:a.eval x=u)
 (V:Below B w0 wr) (y:B<=wr.heap.size) (z:Own r B e (λx=>False\/B<=x) wr v xs) (aj:(g4 r).rel S wr [u] ys)
 (G:xs.length+ys.length<=maxLen) (Y:(xs.length+ys.length)*bytes<=140737488355328)
 (K: ∀v' w',Own r B e (λx=>False\/B<=x) w' v' (xs++ys)->Below B w0 w'->wpList P ops Q rest (a.put o.dst v') w'):
 wpList P ops Q (o::rest) a wr:=by
 refine iC (r:=r) (base:=B) (F:=λx=>False\/B<=x) (S:=λ_=>False) (xs:=xs) (ys:=ys) ad s x af U ai ak z (Src.plain ah (Src.of_slice aj)) (λ_ _ h=>h.elim) (λ_ _ h=>h) G Y y λv' w' ag ae _=>K v' w' ?_ ?_
 ·refine ag.mono λj _ h=> ?_
  rcases h with h|h
  ·exact h
  ·exact .inr (iu y h)
 ·exact Kept.behind V ae y λj al ab=>by
   have:=(z.lt ab).2.2;omega
theorem Fp (S:UO)(w:World)(a:UP)(cap:Nat)(l:List lK)(h:ih.rel S w [.slice a l.length cap] l)(ah:l.length<=1000000):
 Calls prog 270 #[.slice a l.length cap] w λe w'=> ∃v,e= .returned v/\Own uf w.heap.size 115 (λx=>False\/w.heap.size<=x) w' v l/\BW w w':=by
 have af:=JC
 cases a with
 |none=>
  have ab:l= []:=by
   cases l with
   |nil=>rfl
   |cons x xs=>obtain⟨b,off,h1, -⟩:=o6 h 0 US;cases h1
  subst ab;go_wp2;go_ret;exact⟨_,rfl,Own.nil _ _ _ _ _,g' _ _⟩
 |some ae=>
  have j:=jc w (.cells #[] 115);have u:=Hd (Own.empty uf w.heap.size 115 (gY w (.cells #[] 115)) (g9 _));have V:=Hd (Src.plain (S':=λ_=>False) rq (Src.of_slice ((ih).c' h j)));have G:=Hd j;clear h j;go_in;go_wp2_with (at_builtin;refine iC (r:=uf) (base:=w.heap.size) rfl _ _ rfl xS rfl rfl u.o V.o (λ_ _ h=>h.elim) (λ_ _ h=>h) (by unfold maxLen;simp;omega) (by simp;omega) (by rw [U4];omega) ?_)
  intro ad z y Y _;have hb3:BW w z:=Kept.behind G.o Y (by rw [U4];omega) λk ag h=>by have:=(u.o.lt h).2.2;omega
  have U:Hi (Own uf w.heap.size 115 (λx=>False\/w.heap.size<=x) z ad l):=by
   have:=y.mono (F':=λx=>False\/w.heap.size<=x) λk _ h=> .inr (by rcases h with h|h<;>omega)
   exact this
  have K:=Hd hb3;clear y hb3;go_wp2;go_ret;exact⟨_,rfl,U.o,K.o⟩
theorem Fo (S:UO)(w:World)(a:UP)(cap len:Nat)(l:List lK)(u:l.length=len)(h:ih.rel S w [.slice a len cap] l)(j:l.length<=1000000):
 Calls prog 270 #[.slice a len cap] w λe w'=> ∃v,e= .returned v/\Own uf w.heap.size 115 (λx=>False\/w.heap.size<=x) w' v l/\BW w w':=by
 subst u;exact Fp S w a cap l h j
theorem Oh {S:UO}{w:World}{j:Addr}{cap:Nat}{l:List lK}(h:ih.rel S w [.slice (some j) l.length cap] l)(q:Nat)(z:q<=l.length):ih.rel S w [.slice (some (j.add (q*3))) (l.length-q) (cap-q)] (l.drop q):=by
 have u:=g4.lens h;rcases kZ q l.length with hlt|y
 ·obtain⟨b,off,e, -⟩:=o6 h q hlt
  obtain rfl:=jR e;have h2:=g4.FQ h q z;rw [uf.n]at h2;rw [Addr.add_lit];exact h2
 ·have e:l.length-q=0:=UN
  rw [e,TM y];exact⟨_,0,cap-q,rfl,rfl,iy _,by have:=u.2.2.1;omega,λh=>by simp at h,λi x h=>by simp at h⟩
def lS (l:List lK)(x:lK):List lK:=l.take (lG l x.id)++(if x.jD≠0\/x.e'≠0 then [x]else [])++l.drop (if j7 l x.id=true then lG l x.id+1 else lG l x.id)
theorem Jq (S:UO)(w:World)(a:UP)(cap:Nat)(l:List lK)(h:ih.rel S w [.slice a l.length cap] l)(bx:l.length<=100000)(bq:vd l)(x:lK)(aF:vr x):
 Calls prog 186 #[.agg #[.slice a l.length cap],.agg #[x.id,x.jD,x.e']] w λe w'=> ∃(aT:UP) (aU:Nat),e= .returned (.agg #[.slice aT (lS l x).length aU])/\ih.rel (λk=>w.heap.size<=k) w' [.slice aT (lS l x).length aU] (lS l x)/\BW w w':=by
 have aL:=hd (hd (jc w (.cells #[.slice a l.length cap] 108)) (.cells #[x.id,x.jD,x.e'] 115)) (.cells #[S0] 108);obtain⟨a0,a1,a2⟩:=lb w (.cells #[.slice a l.length cap] 108) (.cells #[x.id,x.jD,x.e'] 115) (.cells #[S0] 108);have a9:Hi (((((w.alloc (.cells #[.slice a l.length cap] 108)).alloc (.cells #[x.id,x.jD,x.e'] 115)).alloc (.cells #[S0] 108)).heap[w.heap.size+1+1]? =some (.cells #[S0] 108 (0,0)))):=a0;obtain⟨aI,aH,H,a4,a8⟩:=zL a1 a2 ((ih).c' h aL) aL aF;have be:Hi ((((w.alloc (.cells #[.slice a l.length cap] 108)).alloc (.cells #[x.id,x.jD,x.e'] 115)).alloc (.cells #[S0] 108)).heap.size=w.heap.size+3):=Hd (by rw [U4,U4,U4]);clear aL h aF a0 a1 a2;go_in;go_upto_region 1 with(fail);generalize (((w.alloc (.cells #[.slice a l.length cap] 108)).alloc (.cells #[x.id,x.jD,x.e'] 115)).alloc (.cells #[S0] 108))=W at*;obtain⟨au,av⟩:=a' aH.o;obtain⟨aw,ax⟩:=a' aI.o;go_wp2_with fail;refine UR (Ap S W a cap l H.o UN bq x.id) λw1 hb1=> ?_;have aZ:=Bc l x.id;have aA:Hi ((l.take (lG l x.id)).length=lG l x.id):=Hd (by rw [Tq];omega);have bw:=(g4.lens H.o).2.1;have af:Hi (lS l x=l.take (lG l x.id)++(if x.jD≠0\/x.e'≠0 then [x]else [])++l.drop (if j7 l x.id=true then lG l x.id+1 else lG l x.id)):=rfl;have a7:Hi (j7 l x.id=true->lG l x.id<l.length):=uH;generalize lG l x.id=p at*;generalize j7 l x.id=bi at*;clear au av aw ax;obtain⟨au,av⟩:=a' (b' hb1 aH.o);go_wp2_with fail;refine(Fo S w1 a cap p (l.take p) aA.o (g4.takeN ((ih).c' H.o hb1) p aZ) (by have:=aA.o;omega)).mono ?_;rintro e w2⟨v2,rfl,aX,hb2⟩;obtain⟨aG,ay,ak⟩:=kT aX hb1 hb2;clear aX hb2 au av;obtain⟨bg,a6⟩:=ik (b' ak.o (b' hb1 aI.o)) (d' hb1 ak.o);clear hb1;obtain⟨aw,ax⟩:=a' bg.o;obtain⟨ag,aW⟩:=iF (l.take p);rw [aW]at aG af aA;have az:Hi (ag.length<=100000):=Hd (by have:=aA.o;omega);clear aW;rcases (show(x.jD=0/\x.e'=0)\/(x.jD=0/\x.e'≠0)\/x.jD≠0 by omega)with⟨h1,h2⟩|⟨h1,h2⟩|h1
 rotate_left;have a3:(x.jD != 0)=false:=by rw [jt];exact h1
 have bv:(x.e' != 0)=true:=by rw [iB];exact h2
 rw [g7 (.inr h2)]at af;clear h1 h2;rotate_left;have a3:(x.jD != 0)=true:=by rw [iB];exact h1
 rw [g7 (.inl h1)]at af;clear h1
 rotate_right
 iterate 2
  focus
   have bh:Hi (uf.rel (λ_=>False) w2 [x.id,x.jD,x.e'] x):=uf.mk a8.o;go_wp2_with (at_builtin;go_loud (refine km (r:=uf) (v:=v2) (wr:=w2) (es:= [U2 x.id,U2 x.jD,U2 x.e']) (w0:=w1) (B:=w1.heap.size) rfl _ _ rfl xS rfl rfl ak.o ak.o.size aG.o bh.o (λx aF=>aF.elim) (by unfold maxLen;have:=az.o;omega) (by have:=az.o;omega) ?_))
   intro ah ar aY aM;have ae:Hi (Own uf w1.heap.size 115 (λx=>False\/w1.heap.size<=x) ar ah (ag++ [x])):=Own.mono aY λx _ h=>(by first|exact h|exact .inr h);obtain⟨G,al⟩:=ik aM (d' ay.o aM);have y:Hi ((ag++ [x]).length<=100001):=Hd (by have:=az.o;rw [U3];simp;omega);obtain⟨j,aD⟩:=iF (ag++ [x]);rw [aD]at ae af y;clear aD aY aM aw ax;obtain⟨aw,ax⟩:=a' (b' al.o aI.o)
  rotate_left
 have a3:(x.jD != 0)=false:=by rw [jt];exact h1
 have bv:(x.e' != 0)=false:=by rw [jt];exact h2
 rw [g3 (by rintro(h|h);exact h h1;exact h h2),T2]at af;clear h1 h2;have ae:=aG;have G:=ak;have al:=a6;have y:Hi (ag.length<=100001):=Nat.le_succ_of_le az.o;obtain⟨ah,br⟩: ∃v,v=v2:=⟨v2,rfl⟩;subst br;obtain⟨ar,bt⟩: ∃v,v=w2:=⟨w2,rfl⟩;subst bt;obtain⟨j,aD⟩: ∃v,v=ag:=⟨ag,rfl⟩;subst aD
 all_goals
  obtain⟨au,av⟩:=a' (b' al.o aH.o);have aC:=af;clear af
  cases bi
  have aj:Hi (lS l x=j++l.drop p):=Hd (by rw [aC.o,g3 US])
  focus
   clear aC;rcases a with _|Y
   focus
    obtain rfl:=(g4.lens H.o).2.2.2 rfl;obtain rfl:=T5 (UN:l.length=0);obtain rfl:p=0:=(by simpa using aZ);have U:Hi (ih.rel S ar [S0] []):=g4.nil;go_wp2_with (at_builtin;go_loud (refine sJ (S:=S) (B:=w1.heap.size) (w0:=w1) (v:=ah) (u:= S0) (xs:=j) (ys:= []) rfl _ _ rfl rq xS rfl rfl G.o G.o.size ae.o U.o (by unfold maxLen;have:=y.o;simp;omega) (by have:=y.o;simp;omega) ?_))
    intro ab z K hb3;have V:Hi (lS [] x=j):=Hd (by rw [aj.o,List.drop_nil,T2]);obtain⟨ad,ao,ai⟩: ∃L,Hi (lS [] x=L)/\Hi (Own uf w1.heap.size 115 (λk=>w1.heap.size<=k) z ab L):=⟨j,V,Own.mono K λk _ h=>by first|exact h|(rcases h with h|h;exact h.elim;exact h)⟩
   rotate_left;by_cases bp:p=cap
   focus
    have bn:l.length=cap:=UN;have V:Hi (lS l x=j):=Hd (by rw [aj.o,TM UN,T2]);have U:Hi (ih.rel S ar [.slice (some Y) 0 0] []):=⟨some Y,0,0,rfl,rfl,g9 _,by unfold maxLen;omega,λh=>by simp at h,λi x h=>by simp at h⟩;go_wp2_with (at_builtin;go_loud (refine sJ (S:=S) (B:=w1.heap.size) (w0:=w1) (v:=ah) (u:= .slice (some Y) 0 0) (xs:=j) (ys:= []) rfl _ _ rfl rq xS rfl rfl G.o G.o.size ae.o U.o (by unfold maxLen;have:=y.o;simp;omega) (by have:=y.o;simp;omega) ?_))
    intro ab z K hb3;obtain⟨ad,ao,ai⟩: ∃L,Hi (lS l x=L)/\Hi (Own uf w1.heap.size 115 (λk=>w1.heap.size<=k) z ab L):=⟨j,V,Own.mono K λk _ h=>by first|exact h|(rcases h with h|h;exact h.elim;exact h)⟩
   rotate_left
   focus
    have U:=Hd (Oh ((ih).c' H.o al.o) (p) UN);have bm:(l.drop (p)).length=l.length-(p):=Ts ..;go_wp2_with (at_builtin;go_loud (refine sJ (S:=S) (B:=w1.heap.size) (w0:=w1) (v:=ah) (u:= .slice (some (Y.add ((p)*3))) (l.length-(p)) (cap-(p))) (xs:=j) (ys:=l.drop (p)) rfl _ _ rfl rq xS rfl rfl G.o G.o.size ae.o U.o (by unfold maxLen;have:=y.o;simp;omega) (by have:=y.o;simp;omega) ?_))
    intro ab z K hb3;have V:=aj;obtain⟨ad,ao,ai⟩: ∃L,Hi (lS l x=L)/\Hi (Own uf w1.heap.size 115 (λk=>w1.heap.size<=k) z ab L):=⟨j++l.drop (p),V,Own.mono K λk _ h=>by first|exact h|(rcases h with h|h;exact h.elim;exact h)⟩
  rotate_right
  have aj:Hi (lS l x=j++l.drop (p+1)):=Hd (by rw [aC.o,g7 rfl]);have bo:=a7.o rfl;have bz:wrap64 ((p:Int)+1)=((p+1:Nat):Int):=by unfold wrap64;omega
  focus
   clear aC;rcases a with _|Y
   exact absurd bo (by have:=(g4.lens H.o).2.2.2 rfl;omega);by_cases bp:p+1=cap
   focus
    have bn:l.length=cap:=UN;have V:Hi (lS l x=j):=Hd (by rw [aj.o,TM UN,T2]);have U:Hi (ih.rel S ar [.slice (some Y) 0 0] []):=⟨some Y,0,0,rfl,rfl,g9 _,by unfold maxLen;omega,λh=>by simp at h,λi x h=>by simp at h⟩;go_wp2_with (at_builtin;go_loud (refine sJ (S:=S) (B:=w1.heap.size) (w0:=w1) (v:=ah) (u:= .slice (some Y) 0 0) (xs:=j) (ys:= []) rfl _ _ rfl rq xS rfl rfl G.o G.o.size ae.o U.o (by unfold maxLen;have:=y.o;simp;omega) (by have:=y.o;simp;omega) ?_))
    intro ab z K hb3;obtain⟨ad,ao,ai⟩: ∃L,Hi (lS l x=L)/\Hi (Own uf w1.heap.size 115 (λk=>w1.heap.size<=k) z ab L):=⟨j,V,Own.mono K λk _ h=>by first|exact h|(rcases h with h|h;exact h.elim;exact h)⟩
   rotate_left
   focus
    have U:=Hd (Oh ((ih).c' H.o al.o) (p+1) UN);have bm:(l.drop (p+1)).length=l.length-(p+1):=Ts ..;go_wp2_with (at_builtin;go_loud (refine sJ (S:=S) (B:=w1.heap.size) (w0:=w1) (v:=ah) (u:= .slice (some (Y.add ((p+1)*3))) (l.length-(p+1)) (cap-(p+1))) (xs:=j) (ys:=l.drop (p+1)) rfl _ _ rfl rq xS rfl rfl G.o G.o.size ae.o U.o (by unfold maxLen;have:=y.o;simp;omega) (by have:=y.o;simp;omega) ?_))
    intro ab z K hb3;have V:=aj;obtain⟨ad,ao,ai⟩: ∃L,Hi (lS l x=L)/\Hi (Own uf w1.heap.size 115 (λk=>w1.heap.size<=k) z ab L):=⟨j++l.drop (p+1),V,Own.mono K λk _ h=>by first|exact h|(rcases h with h|h;exact h.elim;exact h)⟩
 all_goals
  obtain⟨ap,aq,rfl, -, -⟩:=g4.form ai.o.slice;obtain⟨a5,aP⟩:=ik (d' a4.o (d' ay.o hb3)) (b' hb3 (b' ay.o a9.o));have aQ:Hi (w.heap.size+3<=w1.heap.size):=Hd (by have:=ay.o.size;have:=be.o;omega);clear K hb3;obtain⟨bA,r1⟩:=a' aP.o;clear au av aw ax;have aK:=j3 (old:= [S0]) aP.o [.slice ap ad.length aq] rfl;have aJ:=i2 z (q:=w.heap.size+1+1) (S:=λk=>k≠w.heap.size+1+1) (λh=>h rfl) [.slice ap ad.length aq] 0;obtain⟨aN,aE⟩: ∃aN,aN=z.setCells (w.heap.size+1+1) 0 [.slice ap ad.length aq]:=⟨_,rfl⟩;rw [<-aE]at aK aJ;simp only [World.setCells]at aE;obtain⟨bf,bb,aO⟩:=kT aE aK aJ;clear aE aK aJ;go_wp2_with fail;rw [<-bf.o];obtain⟨bj, -⟩:=a' bb.o;refine iQ (v:= .agg #[.slice ap ad.length aq]) (by simp [results,results186,go_sem,bj]) rfl ?_;rw [ao.o];refine⟨ap,aq,rfl,?_,?_⟩
  ·have h1:=(ih).keep ai.o.slice (aO.o.mono λk _ h=>by have aV:w1.heap.size<=k:=h;have:=aQ.o;show k≠_;omega)
   exact(ih).mono h1 λk _ h=>by have aV:w1.heap.size<=k:=h;have:=aQ.o;show _<=_;omega
  ·have bk:Kept (λi=>i<w.heap.size) w z:=Kept.of_below a5.o
   have h1:Kept (λi=>i<w.heap.size) w aN:=bk.trans aO.o λi _ h=>(by have aV:i<w.heap.size:=h;show i≠_;omega);exact h1.below (g9 _)
def lY (b a:Int):Bool:=decide (9223372036854775807<b)||decide (9223372036854775807-b<a)
theorem DS (w:World)(b a:Int)(y:0<=b):
 Calls prog 185 #[b,a] w (Rt w (.bool (lY b a))):=by
 have u:Hi (lY b a=(decide (9223372036854775807<b)||decide (9223372036854775807-b<a))):=rfl;by_cases h1:9223372036854775807<b
 ·have j:Hi (lY b a=true):=by show _=_;rw [u.o,iP h1,Bool.true_or]
  go_wp2;go_ret;exact⟨congrArg (λb=>Ending.returned (.bool b)) j.o.symm,g' _ _⟩
 ·have hw:IntKind.u64.wrap (9223372036854775807-b)=9223372036854775807-b:=by rw [jP];omega
  by_cases h2:9223372036854775807-b<a
  ·have j:Hi (lY b a=true):=by show _=_;rw [u.o,iP h2,Bool.or_true]
   go_wp2;go_ret;exact⟨congrArg (λb=>Ending.returned (.bool b)) j.o.symm,g' _ _⟩
  ·have j:Hi (lY b a=false):=by show _=_;rw [u.o,iH h1,iH h2];rfl
   go_wp2;go_ret;exact⟨congrArg (λb=>Ending.returned (.bool b)) j.o.symm,g' _ _⟩
theorem A6 {S:UO}{w:World}{a:UP}{cap:Nat}{l:List lK}(h:ih.rel S w [.slice a l.length cap] l)(id:Int)(y:iZ id):vr (pj l id)/\(pj l id).id=id:=by
 unfold pj;split
 ·rename_i j
  have u:=uH j;obtain⟨b,off, -, -, -,z, -⟩:=o6 h (lG l id) u;rw [U5,z2 u];refine⟨z,?_⟩;unfold j7 at j;rw [z2 u]at j;simpa using j
 ·exact⟨⟨y,ir (by show(0:Int)<=0;omega) (by show(0:Int)<_;omega),ir (by show(0:Int)<=0;omega) (by show(0:Int)<_;omega)⟩,rfl⟩
theorem Iw (S:UO)(w:World)(a:UP)(cap:Nat)(l:List lK)(h:ih.rel S w [.slice a l.length cap] l)(y:l.length<=100000)(z:vd l)(id jD e':Int)(G:vr ⟨id,jD,e'⟩):
 Calls prog 186 #[.agg #[.slice a l.length cap],.agg #[id,jD,e']] w λe w'=> ∃(j:UP) (u:Nat),e= .returned (.agg #[.slice j (lS l ⟨id,jD,e'⟩).length u])/\ih.rel (λk=>w.heap.size<=k) w' [.slice j (lS l ⟨id,jD,e'⟩).length u] (lS l ⟨id,jD,e'⟩)/\BW w w':=
 Jq S w a cap l h y z ⟨id,jD,e'⟩ G
def rr (l:List lK)(id j:Int):Bool:=lY (pj l id).jD j
def kV (l:List lK)(id j:Int):Int:=if rr l id j=true then 1 else 0
def jH (l:List lK)(id j:Int):List lK:=if rr l id j=true then []else lS l ⟨id,(pj l id).jD+j,(pj l id).e'⟩
def LZ (l:List lK)(err:Int)(w:World)(e:Ending)(w':World):Prop:= ∃(a:UP) (c:Nat),e= .returned (.tuple #[.agg #[.slice a l.length c],UZ err])/\ih.rel (λk=>w.heap.size<=k) w' [.slice a l.length c] l/\BW w w'
theorem yT (S:UO)(w:World)(a:UP)(cap:Nat)(l:List lK)(h:ih.rel S w [.slice a l.length cap] l)(aV:l.length<=100000)(aN:vd l)(id j:Int)(aK:iZ id)(aT:iZ j):
 Calls prog 124 #[.agg #[.slice a l.length cap],id,j] w (LZ (jH l id j) (kV l id j) w):=by
 obtain⟨aF, -⟩:=A6 h id aK;have aw:=hd (jc w (.cells #[.slice a l.length cap] 108)) (.cells #[S0] 108);have aI:=Hd (ji w (.cells #[.slice a l.length cap] 108) (.cells #[S0] 108)).2;have aO:=Hd (ji w (.cells #[.slice a l.length cap] 108) (.cells #[S0] 108)).1;obtain⟨H,aC⟩:=ik ((ih).c' h aw) aw;have ap:Hi (((w.alloc (.cells #[.slice a l.length cap] 108)).alloc (.cells #[S0] 108)).heap.size=w.heap.size+2):=Hd (by rw [U4,U4]);have al:=Hd aF;have aj:Hi (jH l id j=if rr l id j=true then []else lS l ⟨id,(pj l id).jD+j,(pj l id).e'⟩):=rfl;have Y:Hi (rr l id j=lY (pj l id).jD j):=rfl;have aD:Hi (kV l id j=if rr l id j=true then 1 else 0):=rfl;have aE:Hi (lY (pj l id).jD j=false->(pj l id).jD+j<=9223372036854775807):=λhh=>by
  unfold lY at hh;simp at hh;omega
 clear aw h aF;go_in;go_upto_region 1 with(fail);generalize (w.alloc (.cells #[.slice a l.length cap] 108)).alloc (.cells #[S0] 108)=W at*;obtain⟨ay,az⟩:=a' aI.o;go_wp2_with fail;refine UR (CY S W a cap l H.o UN aN id) λw1 hb1=> ?_;clear ay az;obtain⟨m,aL⟩:=iF (pj l id);rw [aL]at al aj Y aE⊢;clear aL;have aU:=(iE al.o.jD).1;go_wp2_with fail;refine UR (DS w1 m.jD j aU) λw2 hb2=> ?_;have U:=Hd (d' hb1 hb2);clear hb1 hb2;have HR2:=Hd (b' U.o aO.o)
 cases K:lY m.jD j with
 |true=>
  have ab:Hi (jH l id j= []):=Hd (by rw [aj.o,Y.o,g7 K]);have ak:Hi (kV l id j=1):=Hd (by rw [aD.o,Y.o,g7 K]);clear K;have ad:=HR2;have V:=U;have aP:Hi (w.heap.size+2<=w2.heap.size):=Hd (by have:=V.o.size;have:=ap.o;omega);have G:=j3 (old:= [S0]) ad.o [S0] rfl;have z:=i2 w2 (q:=w.heap.size+1) (S:=λk=>k≠w.heap.size+1) (λh=>h rfl) [S0] 0;obtain⟨y,u⟩: ∃y,y=w2.setCells (w.heap.size+1) 0 [S0]:=⟨_,rfl⟩;rw [<-u]at G z;simp only [World.setCells]at u;obtain⟨aq,ao,ag⟩:=kT u G z;clear u G z;obtain⟨aY,r1⟩:=a' ad.o;go_wp2_with fail;rw [<-aq.o];obtain⟨ar, -⟩:=a' ao.o;refine iQ (v:= .tuple #[.agg #[S0],UZ 1]) (by simp [results,results124,go_sem,ar]) rfl ?_;rw [ab.o,ak.o];have ax:BW w y:=by
   have av:Kept (λi=>i<w.heap.size) w w2:=(Kept.of_below (S:=λi=>i<w.heap.size) aC.o).trans (Kept.of_below (S:=λi=>i<w.heap.size) V.o) λ_ _ h=>h;have h1:Kept (λi=>i<w.heap.size) w y:=av.trans ag.o λi _ h=>(by have au:i<w.heap.size:=h;show i≠_;omega);exact h1.below (g9 _)
  exact⟨none,0,rfl,g4.nil,ax⟩
 |false=>
  have ab:Hi (jH l id j=lS l ⟨id,m.jD+j,m.e'⟩):=Hd (by rw [aj.o,Y.o,g3 (by rw [K];simp)]);have ak:Hi (kV l id j=0):=Hd (by rw [aD.o,Y.o,g3 (by rw [K];simp)]);have aW:=aE.o K;have aZ:=(iE aT).1;have aX:IntKind.u64.wrap (m.jD+j)=m.jD+j:=by rw [jP];omega
  have aA:Hi (vr ⟨id,m.jD+j,m.e'⟩):=⟨aK,ir (by show(0:Int)<=m.jD+j;omega) (by show m.jD+j<_;omega),al.o.e'⟩;obtain⟨B,aQ⟩:=iF (m.jD+j);rw [aQ]at ab aA aX;clear K aW;obtain⟨ay,az⟩:=a' (b' U.o aI.o);go_wp2_with fail;refine(Iw S w2 a cap l ((ih).c' H.o U.o) aV aN id B m.e' aA.o).mono ?_;rintro e ai⟨ae,af,rfl,aM,hb3⟩;clear ay az;obtain⟨aG,V,ad⟩:=kT aM (d' U.o hb3) (b' hb3 HR2.o);have aH:Hi (w.heap.size+2<=w2.heap.size):=Hd (by have:=U.o.size;have:=ap.o;omega);obtain⟨ah,aJ⟩:=iF (lS l ⟨id,B,m.e'⟩);rw [aJ]at aG ab⊢;clear aJ aM hb3;have aP:Hi (w.heap.size+2<=ai.heap.size):=Hd (by have:=V.o.size;have:=ap.o;omega);have G:=j3 (old:= [S0]) ad.o [.slice ae ah.length af] rfl;have z:=i2 ai (q:=w.heap.size+1) (S:=λk=>k≠w.heap.size+1) (λh=>h rfl) [.slice ae ah.length af] 0;obtain⟨y,u⟩: ∃y,y=ai.setCells (w.heap.size+1) 0 [.slice ae ah.length af]:=⟨_,rfl⟩;rw [<-u]at G z;simp only [World.setCells]at u;obtain⟨aq,ao,ag⟩:=kT u G z;clear u G z;obtain⟨aY,r1⟩:=a' ad.o;go_wp2_with fail;rw [<-aq.o];obtain⟨ar, -⟩:=a' ao.o;refine iQ (v:= .tuple #[.agg #[.slice ae ah.length af],I0]) (by simp [results,results124,go_sem,ar]) rfl ?_;rw [ab.o,ak.o];have ax:BW w y:=by
   have av:Kept (λi=>i<w.heap.size) w ai:=(Kept.of_below (S:=λi=>i<w.heap.size) aC.o).trans (Kept.of_below (S:=λi=>i<w.heap.size) V.o) λ_ _ h=>h;have h1:Kept (λi=>i<w.heap.size) w y:=av.trans ag.o λi _ h=>(by have au:i<w.heap.size:=h;show i≠_;omega);exact h1.below (g9 _)
  refine⟨ae,af,rfl,?_,ax⟩;have h1:=(ih).keep aG.o (ag.o.mono λk _ h=>by have au:w2.heap.size<=k:=h;have:=aH.o;show k≠_;omega);exact(ih).mono h1 λk _ h=>by have au:w2.heap.size<=k:=h;have:=aH.o;show _<=_;omega
def jM (l:List lK)(id j e':Int):Int:=if j=0 then 1 else if e'≠(pj l id).e'\/e'=18446744073709551615 then 20 else if (pj l id).jD<j then 15 else 0
def lx (l:List lK)(id j e':Int):List lK:=if jM l id j e'=0 then lS l ⟨id,(pj l id).jD-j,e'+1⟩else []
theorem Ay (S:UO)(w:World)(a:UP)(cap:Nat)(l:List lK)(h:ih.rel S w [.slice a l.length cap] l)(aW:l.length<=100000)(aO:vd l)(id j e':Int)(aL:iZ id)(aV:iZ j)(aX:iZ e'):
 Calls prog 181 #[.agg #[.slice a l.length cap],id,j,e'] w (LZ (lx l id j e') (jM l id j e') w):=by
 obtain⟨aE, -⟩:=A6 h id aL;have aA:=hd (jc w (.cells #[.slice a l.length cap] 108)) (.cells #[S0] 108);have aI:=Hd (ji w (.cells #[.slice a l.length cap] 108) (.cells #[S0] 108)).2;have aQ:=Hd (ji w (.cells #[.slice a l.length cap] 108) (.cells #[S0] 108)).1;obtain⟨H,aq⟩:=ik ((ih).c' h aA) aA;have ao:Hi (((w.alloc (.cells #[.slice a l.length cap] 108)).alloc (.cells #[S0] 108)).heap.size=w.heap.size+2):=Hd (by rw [U4,U4]);have aF:=Hd aE;have al:Hi (lx l id j e'=if jM l id j e'=0 then lS l ⟨id,(pj l id).jD-j,e'+1⟩else []):=rfl;have ak:Hi (jM l id j e'=if j=0 then 1 else if e'≠(pj l id).e'\/e'=18446744073709551615 then 20 else if (pj l id).jD<j then 15 else 0):=rfl;clear aA h aE;go_in;go_upto_region 1 with(fail);generalize (w.alloc (.cells #[.slice a l.length cap] 108)).alloc (.cells #[S0] 108)=W at*;obtain⟨aC,aD⟩:=a' aI.o;go_wp2_with fail;refine UR (CY S W a cap l H.o UN aO id) λw2 hb1=> ?_;clear aC aD;obtain⟨m,aM⟩:=iF (pj l id);rw [aM]at aF al ak⊢;clear aM;have aj:=Hd hb1;clear hb1;have HR2:=Hd (b' aj.o aQ.o);have Y:=HR2;have U:=aj;have a2:=iE aV;have a4:=iE aX;have a3:=iE aF.o.jD;by_cases h1:j=0
 ·have K:Hi (jM l id j e'=1):=by show _=_;rw [ak.o,g7 h1]
  have V:Hi (lx l id j e'= []):=Hd (by rw [al.o,g3 (by rw [K.o];omega)]);have a0:(j==0)=true:=(by rw [iO];exact h1);clear h1;have av:Hi (w.heap.size+2<=w2.heap.size):=Hd (by have:=U.o.size;have:=ao.o;omega);have G:=j3 (old:= [S0]) Y.o [S0] rfl;have z:=i2 w2 (q:=w.heap.size+1) (S:=λk=>k≠w.heap.size+1) (λh=>h rfl) [S0] 0;obtain⟨y,u⟩: ∃y,y=w2.setCells (w.heap.size+1) 0 [S0]:=⟨_,rfl⟩;rw [<-u]at G z;simp only [World.setCells]at u;obtain⟨ae,ad,ab⟩:=kT u G z;clear u G z;obtain⟨ax,r1⟩:=a' Y.o;go_wp2_with fail;rw [<-ae.o];obtain⟨af, -⟩:=a' ad.o;refine iQ (v:= .tuple #[.agg #[S0],UZ 1]) (by simp [results,results181,go_sem,af]) rfl ?_;rw [V.o,K.o];have ah:BW w y:=by
   have ag:Kept (λi=>i<w.heap.size) w w2:=(Kept.of_below (S:=λi=>i<w.heap.size) aq.o).trans (Kept.of_below (S:=λi=>i<w.heap.size) U.o) λ_ _ h=>h;have h1:Kept (λi=>i<w.heap.size) w y:=ag.trans ab.o λi _ h=>(by have ap:i<w.heap.size:=h;show i≠_;omega);exact h1.below (g9 _)
  exact⟨none,0,rfl,g4.nil,ah⟩
 ·have a0:(j==0)=false:=by rw [je];exact h1
  by_cases h2:e'=m.e'
  ·by_cases ai:e'=18446744073709551615
   ·have K:Hi (jM l id j e'=20):=by show _=_;rw [ak.o,g3 h1,g7 (.inr ai)]
    have V:Hi (lx l id j e'= []):=Hd (by rw [al.o,g3 (by rw [K.o];omega)]);have aP:(e' != m.e')=false:=(by rw [jt];exact h2);have a1:(e'==18446744073709551615)=true:=(by rw [iO];exact ai);clear h1 h2 ai;have av:Hi (w.heap.size+2<=w2.heap.size):=Hd (by have:=U.o.size;have:=ao.o;omega);have G:=j3 (old:= [S0]) Y.o [S0] rfl;have z:=i2 w2 (q:=w.heap.size+1) (S:=λk=>k≠w.heap.size+1) (λh=>h rfl) [S0] 0;obtain⟨y,u⟩: ∃y,y=w2.setCells (w.heap.size+1) 0 [S0]:=⟨_,rfl⟩;rw [<-u]at G z;simp only [World.setCells]at u;obtain⟨ae,ad,ab⟩:=kT u G z;clear u G z;obtain⟨ax,r1⟩:=a' Y.o;go_wp2_with fail;rw [<-ae.o];obtain⟨af, -⟩:=a' ad.o;refine iQ (v:= .tuple #[.agg #[S0],UZ 20]) (by simp [results,results181,go_sem,af]) rfl ?_;rw [V.o,K.o];have ah:BW w y:=by
     have ag:Kept (λi=>i<w.heap.size) w w2:=(Kept.of_below (S:=λi=>i<w.heap.size) aq.o).trans (Kept.of_below (S:=λi=>i<w.heap.size) U.o) λ_ _ h=>h;have h1:Kept (λi=>i<w.heap.size) w y:=ag.trans ab.o λi _ h=>(by have ap:i<w.heap.size:=h;show i≠_;omega);exact h1.below (g9 _)
    exact⟨none,0,rfl,g4.nil,ah⟩
   ·have aP:(e' != m.e')=false:=by rw [jt];exact h2
    have a1:(e'==18446744073709551615)=false:=(by rw [je];exact ai);by_cases aJ:m.jD<j
    ·have K:Hi (jM l id j e'=15):=by show _=_;rw [ak.o,g3 h1,g3 (by rintro(h|h);exact h h2;exact ai h),g7 aJ]
     have V:Hi (lx l id j e'= []):=Hd (by rw [al.o,g3 (by rw [K.o];omega)]);clear h1 h2 ai;have av:Hi (w.heap.size+2<=w2.heap.size):=Hd (by have:=U.o.size;have:=ao.o;omega);have G:=j3 (old:= [S0]) Y.o [S0] rfl;have z:=i2 w2 (q:=w.heap.size+1) (S:=λk=>k≠w.heap.size+1) (λh=>h rfl) [S0] 0;obtain⟨y,u⟩: ∃y,y=w2.setCells (w.heap.size+1) 0 [S0]:=⟨_,rfl⟩;rw [<-u]at G z;simp only [World.setCells]at u;obtain⟨ae,ad,ab⟩:=kT u G z;clear u G z;obtain⟨ax,r1⟩:=a' Y.o;go_wp2_with fail;rw [<-ae.o];obtain⟨af, -⟩:=a' ad.o;refine iQ (v:= .tuple #[.agg #[S0],UZ 15]) (by simp [results,results181,go_sem,af]) rfl ?_;rw [V.o,K.o];have ah:BW w y:=by
      have ag:Kept (λi=>i<w.heap.size) w w2:=(Kept.of_below (S:=λi=>i<w.heap.size) aq.o).trans (Kept.of_below (S:=λi=>i<w.heap.size) U.o) λ_ _ h=>h;have h1:Kept (λi=>i<w.heap.size) w y:=ag.trans ab.o λi _ h=>(by have ap:i<w.heap.size:=h;show i≠_;omega);exact h1.below (g9 _)
     exact⟨none,0,rfl,g4.nil,ah⟩
    ·have K:Hi (jM l id j e'=0):=by show _=_;rw [ak.o,g3 h1,g3 (by rintro(h|h);exact h h2;exact ai h),g3 aJ]
     have V:Hi (lx l id j e'=lS l ⟨id,m.jD-j,e'+1⟩):=Hd (by rw [al.o,g7 K.o]);have aZ:IntKind.u64.wrap (m.jD-j)=m.jD-j:=(by rw [jP];omega);have aY:IntKind.u64.wrap (e'+1)=e'+1:=(by rw [jP];omega);have az:Hi (vr ⟨id,m.jD-j,e'+1⟩):=⟨aL,ir (by show(0:Int)<=m.jD-j;omega) (by show m.jD-j<_;omega),ir (by show(0:Int)<=e'+1;omega) (by show e'+1<_;omega)⟩;obtain⟨B,aT⟩:=iF (m.jD-j);obtain⟨N,aU⟩:=iF (e'+1);rw [aT]at V az aZ;rw [aU]at V az aY;clear h1 h2 ai Y U;obtain⟨aC,aD⟩:=a' (b' aj.o aI.o);go_wp2_with fail;refine(Iw S w2 a cap l ((ih).c' H.o aj.o) aW aO id B N az.o).mono ?_;rintro e ay⟨ar,au,rfl,aN,hb3⟩;clear aC aD;obtain⟨aG,U,Y⟩:=kT aN (d' aj.o hb3) (b' hb3 HR2.o);have aH:Hi (w.heap.size+2<=w2.heap.size):=Hd (by have:=aj.o.size;have:=ao.o;omega);obtain⟨aw,aK⟩:=iF (lS l ⟨id,B,N⟩);rw [aK]at aG V⊢;clear aK aN hb3;have av:Hi (w.heap.size+2<=ay.heap.size):=Hd (by have:=U.o.size;have:=ao.o;omega);have G:=j3 (old:= [S0]) Y.o [.slice ar aw.length au] rfl;have z:=i2 ay (q:=w.heap.size+1) (S:=λk=>k≠w.heap.size+1) (λh=>h rfl) [.slice ar aw.length au] 0;obtain⟨y,u⟩: ∃y,y=ay.setCells (w.heap.size+1) 0 [.slice ar aw.length au]:=⟨_,rfl⟩;rw [<-u]at G z;simp only [World.setCells]at u;obtain⟨ae,ad,ab⟩:=kT u G z;clear u G z;obtain⟨ax,r1⟩:=a' Y.o;go_wp2_with fail;rw [<-ae.o];obtain⟨af, -⟩:=a' ad.o;refine iQ (v:= .tuple #[.agg #[.slice ar aw.length au],I0]) (by simp [results,results181,go_sem,af]) rfl ?_;rw [V.o,K.o];have ah:BW w y:=by
      have ag:Kept (λi=>i<w.heap.size) w ay:=(Kept.of_below (S:=λi=>i<w.heap.size) aq.o).trans (Kept.of_below (S:=λi=>i<w.heap.size) U.o) λ_ _ h=>h;have h1:Kept (λi=>i<w.heap.size) w y:=ag.trans ab.o λi _ h=>(by have ap:i<w.heap.size:=h;show i≠_;omega);exact h1.below (g9 _)
     refine⟨ar,au,rfl,?_,ah⟩;have h1:=(ih).keep aG.o (ab.o.mono λk _ h=>by have ap:w2.heap.size<=k:=h;have:=aH.o;show k≠_;omega);exact(ih).mono h1 λk _ h=>by have ap:w2.heap.size<=k:=h;have:=aH.o;show _<=_;omega
  ·have K:Hi (jM l id j e'=20):=by show _=_;rw [ak.o,g3 h1,g7 (.inl h2)]
   have V:Hi (lx l id j e'= []):=Hd (by rw [al.o,g3 (by rw [K.o];omega)]);have aP:(e' != m.e')=true:=(by rw [iB];exact h2);clear h1 h2;have av:Hi (w.heap.size+2<=w2.heap.size):=Hd (by have:=U.o.size;have:=ao.o;omega);have G:=j3 (old:= [S0]) Y.o [S0] rfl;have z:=i2 w2 (q:=w.heap.size+1) (S:=λk=>k≠w.heap.size+1) (λh=>h rfl) [S0] 0;obtain⟨y,u⟩: ∃y,y=w2.setCells (w.heap.size+1) 0 [S0]:=⟨_,rfl⟩;rw [<-u]at G z;simp only [World.setCells]at u;obtain⟨ae,ad,ab⟩:=kT u G z;clear u G z;obtain⟨ax,r1⟩:=a' Y.o;go_wp2_with fail;rw [<-ae.o];obtain⟨af, -⟩:=a' ad.o;refine iQ (v:= .tuple #[.agg #[S0],UZ 20]) (by simp [results,results181,go_sem,af]) rfl ?_;rw [V.o,K.o];have ah:BW w y:=by
    have ag:Kept (λi=>i<w.heap.size) w w2:=(Kept.of_below (S:=λi=>i<w.heap.size) aq.o).trans (Kept.of_below (S:=λi=>i<w.heap.size) U.o) λ_ _ h=>h;have h1:Kept (λi=>i<w.heap.size) w y:=ag.trans ab.o λi _ h=>(by have ap:i<w.heap.size:=h;show i≠_;omega);exact h1.below (g9 _)
   exact⟨none,0,rfl,g4.nil,ah⟩
end Go.Proofs.YtjdiofjjoefnhaaGreatDoor
