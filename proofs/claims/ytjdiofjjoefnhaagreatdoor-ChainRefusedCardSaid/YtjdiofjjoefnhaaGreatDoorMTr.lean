/- The note tree, computed from all its places, and the frontier: they have the same root. -/
import Derived.Test.YtjdiofjjoefnhaaGreatDoorMRcB
set_option maxRecDepth 100000
set_option maxHeartbeats 8000000
namespace Go.Proofs.YtjdiofjjoefnhaaGreatDoor
open Go.ChangeShapes Go.WideShapes Go.ChangeAt Go.RowKit Go.Sort
def mS (ls:List Int):Nat->Nat->Int
 |0,q=>ls.getD q (kp 0)
 |k+1,q=>ln (mS ls k (2*q)) (mS ls k (2*q+1))
theorem FV (q k:Nat):q*2^(k+1)=2*q*2^k:=by rw [rV,Nat.mul_comm (2^k) 2,<-Nat.mul_assoc,Nat.mul_comm q 2]
theorem sN (ls:List Int): ∀k q,ls.length<=q*2^k->mS ls k q=kp k
 |0,q,h=>by
  rw [Nat.pow_zero,qP]at h;show ls.getD q _=_;rw [U5,TA h];rfl
 |k+1,q,h=>by
  rw [FV]at h;have h2:(2*q+1)*2^k=2*q*2^k+2^k:=by rw [Nat.add_mul,Nat.one_mul]
  show ln _ _=ln _ _;rw [sN ls k (2*q) h,sN ls k (2*q+1) (by rw [h2];exact iu h (UE _ _))]
theorem tq (ls j:List Int): ∀k q,(q+1)*2^k<=ls.length->mS (ls++j) k q=mS ls k q
 |0,q,h=>by
  rw [Nat.pow_zero,qP]at h;show(ls++j).getD q _=ls.getD q _;rw [U5,U5,TN UN]
 |k+1,q,h=>by
  rw [FV]at h;have h1:(2*q+1)*2^k=2*q*2^k+2^k:=by rw [Nat.add_mul,Nat.one_mul]
  have h2:(2*q+1+1)*2^k=(2*q+1)*2^k+2^k:=by rw [Nat.add_mul,Nat.one_mul]
  have u:2*(q+1)=2*q+1+1:=UN
  rw [u]at h;show ln _ _=ln _ _;rw [tq ls j k (2*q) (iu (Ce _ UN) h),tq ls j k (2*q+1) h]
structure Lz (f:xg)(D:Nat)(ls:List Int):Prop where
 count:f.count=ls.length
 left: ∀i,i<=D->ls.length / 2^i % 2=1->f.left.getD i 0=mS ls i (ls.length / 2^i-1)
theorem Bg (D:Nat):Lz (mf D) D []:=⟨rfl,λi _ h=>by simp at h⟩
theorem Au (n i:Nat)(h:n / 2^i % 2=1):n / 2^i=2*(n / 2^(i+1))+1:=by
 have e:n / 2^(i+1)=n / 2^i / 2:=by rw [rV,FF]
 omega
theorem Hk (n i:Nat)(h:n / 2^i % 2=0):n / 2^i=2*(n / 2^(i+1)):=by
 have e:n / 2^(i+1)=n / 2^i / 2:=by rw [rV,FF]
 omega
theorem Dj {n D i:Nat}(h:n<=2^D)(j:D<=11):n / 2^i<4096:=by
 have u:2^D<=2^11:=uq UN j;exact xF (Cd _ _) UN
theorem yX (ls:List Int)(x:Int)(D:Nat)(ab:ls.length<2^D)(V:D<=12): ∀(n j:Nat) (d:Int) (l:List Int),j+n=D+1->l.length=D+1->
 d=mS (ls++ [x]) j (ls.length / 2^j)->
 (∀i,j<=i->i<=D->ls.length / 2^i % 2=1->l.getD i 0=mS ls i (ls.length / 2^i-1))->
 ∀m,(∀i,i<m->ls.length / 2^i % 2=1)->ls.length / 2^m % 2=0->j<=m->m<=D->(ld (ls.length:Int) n j d l).getD m 0=mS (ls++ [x]) m (ls.length / 2^m)
 |0,j,d,l,h1,_,_,_,m,_,_,y,U=>by omega
 |n+1,j,d,l,h1,h2,z,G,m,K,ae,y,U=>by
  have hlt:ls.length / 2^j<4096:=by
   have y:ls.length<2^12:=jg ab (uq UN V);exact xF (Cd _ _) y
  have Y:=pV ls.length j hlt;by_cases u:ls.length / 2^j % 2=1
  ·rw [yY _ _ _ _ _ (by rw [Y,u];rfl)]
   have ad:j≠m:=(by intro e;rw [e]at u;omega);have ah:=Au _ _ u;refine yX ls x D ab V n (j+1) _ _ UN (by rw [TG,h2]) ?_ (λi hi af ag=> ?_) m K ae UN U
   ·show ln _ _=ln _ _
    rw [<-ah,show 2*(ls.length / 2^(j+1))=ls.length / 2^j-1 by omega,G j (g9 _) UN u,z];rw [tq ls [x] j (ls.length / 2^j-1) (by rw [show ls.length / 2^j-1+1=ls.length / 2^j by omega];exact Nat.div_mul_le_self _ _)]
   ·rw [U5,TR,g3 UN,<-U5]
    exact G i UN af ag
  ·have ai:ls.length / 2^j % 2=0:=UN
   have ad:j=m:=by
    rcases kZ j m with h|h
    ·exact absurd (K j h) u
    ·omega
   subst ad;rw [wN _ _ _ _ _ (by rw [Y,ai];decide)];rw [U5,TR,g7 rfl,g7 UN];exact z
theorem KR {f:xg}{D:Nat}{ls:List Int}(Y:tT f D)(h:Lz f D ls)(U:ls.length<2^D)(x:Int)(ai:0<=x/\x<18446744069414584321):Lz (uj f x) D (ls++ [x]):=by
 have V:f.count=ls.length:=h.count;have y:=Y.len;obtain⟨ak,ct,z⟩:=f;simp only at V y;subst V;have K:=Y.d1;obtain⟨m, -,m2,G,ae,ap, -,aj⟩:=s8 ls.length D U K (D+1) 0 x z UN y (λi hi=>UN) (λi hi=>UN) ai;obtain⟨s1,s2⟩:=Ab ls.length m G ae;have af:=yX ls x D U K (D+1) 0 x z UN y (by
  show x=(ls++ [x]).getD (ls.length / 2^0) _;rw [Nat.pow_zero,Nat.div_one,U5,TX (g9 _)];simp) (λi _ hi u=>h.left i hi u) m G ae (iy _) m2
 have ao:=uE ls.length m G;have ag:0<2^m:=vT UN;have al:=Nat.div_add_mod ls.length (2^m);have ad:ls.length+1=2^m*(ls.length / 2^m+1):=by rw [Nat.mul_add];omega
 have ab:(ls++ [x]).length=ls.length+1:=US
 refine⟨?_,λi hi u=> ?_⟩
 ·show(ls.length:Int)+1=_;rw [ab];push_cast;rfl
 ·rw [ab]at u⊢
  show(ld (ls.length:Int) z.length 0 x z).getD i 0=_;rw [y];rcases Nat.lt_trichotomy i m with h1|rfl|h1
  ·exfalso
   obtain⟨j,rfl⟩: ∃j,m=i+(j+1):=⟨m-i-1,UN⟩;rw [ad,Nat.pow_add,Nat.mul_assoc,FG _ (vT UN),rV,Nat.mul_comm (2^j) 2,Nat.mul_assoc,Nat.mul_mod_right]at u;omega
  ·rw [af,ad,FG _ ag,qT]
  ·rw [aj i h1,s2 i h1]
   rw [s2 i h1]at u;have ah:1<=ls.length / 2^i:=(by generalize ls.length / 2^i=q at u;omega);rw [h.left i hi u,tq];rw [Nat.sub_add_cancel ah];exact Nat.div_mul_le_self _ _
theorem Gd {D:Nat}: ∀(cs:List Int) (f:xg) (ls:List Int),tT f D->Lz f D ls->ls.length+cs.length<=2^D->(∀x∈cs,0<=x/\x<18446744069414584321)->Lz (nT f cs) D (ls++cs)
 | [],f,ls,_,h,_,_=>by rw [T2];exact h
 |x::cs,f,ls,z,h,G,j=>by
  simp only [Tz]at G;have K:=h.count
  have h1:=Gr z (by rw [K];have:((2:Nat)^D:Nat)=((2:Int)^D):=by push_cast;rfl
                    omega) x (j x US)
  have h2:=KR z h UN x (j x US);have u:=Gd cs (uj f x) (ls++ [x]) h1 h2 (by simp;omega) λy hy=>j y (by simp [hy]);rw [Tt]at u;exact u
theorem wA {f:xg}{D:Nat}{ls:List Int}(h:Lz f D ls)(z:ls.length<=2^D)(y:D<=11): ∀k,k<=D->nS f.count f.left k=mS ls k (ls.length / 2^k)
 |0,_=>by
  show kp 0=ls.getD _ _;rw [Nat.pow_zero,Nat.div_one,U5,TA (g9 _)];rfl
 |k+1,V=>by
  have K:=wA h z y k UN;have U:=pV ls.length k (Dj z y);unfold nS;rw [h.count]at K⊢;rw [K,U];show _=ln (mS ls k (2*(ls.length / 2^(k+1)))) (mS ls k (2*(ls.length / 2^(k+1))+1));by_cases j:ls.length / 2^k % 2=1
  ·have u:=Au _ _ j
   rw [g7 (by rw [j];rfl),h.left k UN j,<-u,show 2*(ls.length / 2^(k+1))=ls.length / 2^k-1 by omega]
  ·have G:ls.length / 2^k % 2=0:=UN
   have u:=Hk _ _ G;rw [g3 (by rw [G];decide),<-u,sN ls k (ls.length / 2^k+1)];have h1:=Nat.div_add_mod ls.length (2^k);have h2:=Nat.mod_lt ls.length (show 2^k>0 from vT UN);rw [Nat.add_mul,Nat.one_mul,Nat.mul_comm (ls.length / 2^k)];omega
theorem vB {f:xg}{D:Nat}{ls:List Int}(h:Lz f D ls)(z:ls.length<=2^D)(y:D<=11):mT f D=mS ls D 0:=by
 unfold mT;have u:0<2^D:=vT UN;have e:((2:Nat)^D:Nat)=((2:Int)^D):=by push_cast;rfl
 by_cases hfull:f.count=2^D
 ·have j:ls.length=2^D:=by have:=h.count;omega
  rw [g7 hfull,h.left D (g9 _) (by rw [j,Nat.div_self u]),j,Nat.div_self u]
 ·have j:ls.length<2^D:=by have:=h.count;omega
  rw [g3 hfull,wA h z y D (g9 _),Nat.div_eq_of_lt j]
def oY (ls:List Int)(D k:Nat):List Int:=(List.range (2^(D-k))).map (mS ls k)
theorem oP (ls:List Int)(D k:Nat):(oY ls D k).length=2^(D-k):=by simp [oY]
theorem CV (ls:List Int)(D k q:Nat)(h:q<2^(D-k)):(oY ls D k).getD q 0=mS ls k q:=by
 rw [U5,z2 (by rw [oP];exact h)];simp [oY]
theorem EY (ls:List Int)(D:Nat)(h:ls.length<=2^D):ls++List.replicate (2^D-ls.length) (kp 0)=oY ls D 0:=by
 refine Um (by rw [oP,U3,List.length_replicate,Nat.sub_zero];omega) λi h1 h2=> ?_;have e:(oY ls D 0)[i]=ls.getD i (kp 0):=by simp [oY,mS]
 rw [e,U5];rcases kZ i ls.length with j|j
 ·rw [TT j,z2 j];rfl
 ·rw [TW j,List.getElem_replicate,TA j];rfl
def xQ (l:List Int):List Int:=(List.range (l.length / 2)).map λq=>ln (l.getD (2*q) 0) (l.getD (2*q+1) 0)
theorem E9 (ls:List Int)(D k:Nat)(h:k<D):xQ (oY ls D k)=oY ls D (k+1):=by
 have e:2^(D-k)=2*2^(D-(k+1)):=by rw [show D-k=D-(k+1)+1 by omega,rV];omega
 unfold xQ;rw [oP,e,FG _ UN];unfold oY;refine List.map_congr_left λq j=> ?_;rw [List.mem_range]at j;show ln _ _=ln _ _;have h1:=CV ls D k (2*q) UN;have h2:=CV ls D k (2*q+1) UN;unfold oY at h1 h2;rw [h1,h2]
theorem Jr (ls:List Int)(D:Nat):oY ls D D= [mS ls D 0]:=by simp [oY]
theorem Cq (ls:List Int)(h: ∀x∈ls,0<=x/\x<18446744069414584321): ∀k q,0<=mS ls k q/\mS ls k q<18446744069414584321
 |0,q=>by
  show 0<=ls.getD q _/\ls.getD q _<_;rw [U5];rcases kZ q ls.length with j|j
  ·rw [z2 j];exact h _ (z3 j)
  ·rw [TA j];exact pE 0
 |_+1,_=>pT _ _
def oj (l:List lK):Prop:= ∀x∈l,x.jD<=9223372036854775807
theorem oj.nil:oj []:=λx h=>by simp at h
theorem Bo {l:List lK}(h:oj l)(id:Int):(pj l id).jD<=9223372036854775807:=by
 unfold pj;split
 ·rename_i u
  have j:=uH u;rw [U5,z2 j];exact h _ (z3 j)
 ·show(0:Int)<=_;omega
theorem CA {l:List lK}(h:oj l){x:lK}(j:x.jD<=9223372036854775807):oj (lS l x):=by
 intro y hy;unfold lS at hy;rcases Ti.1 hy with hy|hy
 ·rcases Ti.1 hy with hy|hy
  ·exact h y (TV hy)
  ·split at hy
   ·rw [TD]at hy;subst hy;exact j
   ·simp at hy
 ·exact h y (TQ hy)
theorem wL {l:List lK}(h:oj l)(id j:Int):oj (jH l id j):=by
 unfold jH;split
 ·exact oj.nil
 ·rename_i u
  refine CA h ?_;unfold rr lY at u;simp only [Bool.or_eq_true,jk,not_or]at u;show(pj l id).jD+j<=_;omega
theorem yS {l:List lK}(h:oj l)(id:Int){j:Int}(u:0<=j)(no:Int):oj (lx l id j no):=by
 unfold lx;split
 ·refine CA h ?_
  have:=Bo h id;show(pj l id).jD-j<=_;omega
 ·exact oj.nil
structure H4 (r:i4)(s:j8):Prop where
 tree:Lz s.tree r.depth.toNat s.leaves
 jD:oj s.book
theorem ME (r:i4):H4 r (sg r):=⟨Bg _,oj.nil⟩
theorem It {r:i4}{s:j8}{n:Nat}(ok:nm r s n)(h:H4 r s){t:jO}(y:h7 r s t=0)(G: ∀o∈t.outs,0<=o.g6):H4 r (kD s t):=by
 obtain⟨K,ab,V,Y⟩:=lQ y;have z: ∀x∈jb t,0<=x/\x<18446744069414584321:=by
  intro x U;obtain⟨o,u,rfl⟩:=List.mem_map.1 U;exact⟨G o u,pY K o u⟩
 have e:((2:Nat)^r.depth.toNat:Nat)=((2:Int)^r.depth.toNat):=by push_cast;rfl
 have j:oj (book1 s t):=by
  unfold book1;split
  ·exact yS h.jD _ UN _
  ·exact h.jD
 refine⟨Gd (jb t) s.tree s.leaves ok.tree h.tree (by simp only [jb,TC];omega) z,?_⟩;show oj (if 0<t.wd/\jA s t=0 then jH (book1 s t) t.acc t.wd else book1 s t);split
 ·exact wL j _ _
 ·exact j
theorem LA {r:i4}: ∀(l:List jO) (s:j8) (n:Nat),nm r s n->H4 r s->mF r s l=0->(∀t∈l,∀o∈t.outs,0<=o.g6)->H4 r (om s l)
 | [],s,n,_,h,_,_=>h
 |t::l,s,n,ok,h,y,u=>by
  have j:(if h7 r s t=0 then (if jA s t=0 then mF r (kD s t) l else jA s t)else h7 r s t)=0:=y;split at j
  ·rename_i h1
   split at j
   ·exact LA l (kD s t) (n+4) (xm ok h1 (u t US)) (It ok h h1 (u t US)) j λt' z=>u t' (by simp [z])
   ·rename_i h2;exact absurd j h2
  ·rename_i h1;exact absurd j h1
theorem Ii {r:i4}(hr:oo r): ∀(n:Nat) (bs:List hV),bs.length=n->j6 r bs->H4 r (jl r bs)
 |0,bs,h,_=>by
  obtain rfl:=T5 h;exact ME r
 |n+1,bs,h,y=>by
  have u:bs≠ []:=by intro e;rw [e]at h;simp at h
  have z:=Up u;rw [<-z]at y⊢;obtain⟨h1,h2,G⟩:=y.last;have K:=mC hr _ _ rfl h1;have U:=Ii hr n bs.dropLast (by rw [List.length_dropLast];omega) h1;have j:=LA (bs.getLast u).hQ _ _ K.ok U (vI (s9 G).2.2) h2.pos;rw [l5];exact⟨j.tree,wL j.jD _ _⟩
theorem Lb {l:List lK}(G:vd l){i:Nat}(hi:i<l.length){id:Int}(h:l[i].id=id):pj l id=l[i]:=by
 have j:lG l id=i:=xl l id i UN (λm y z=>by
  have:=TP.1 G m i y hi z;omega) (λ_=>UN)
 have u:j7 l id=true:=by
  unfold j7;rw [j,z2 hi];simpa using h
 unfold pj;rw [g7 u,j,U5,z2 hi];rfl
theorem JX {l:List lK}{id:Int}(h: ∀x∈l,x.id≠id):pj l id=⟨id,0,0⟩:=by
 have j:j7 l id=false:=by
  unfold j7
  cases u:l[lG l id]? with
  |none=>rfl
  |some x=>
   have:=h x (Uc u);simpa using this
 unfold pj;rw [j,g3 US]
theorem tail_drop: ∀(l:List lK) (id:Int),vd l->l.filter (λx=>decide (id<x.id))=l.drop (if j7 l id=true then lG l id+1 else lG l id)
 | [],_,_=>by simp
 |x::l,id,U=>by
  obtain⟨h1,h2⟩:=TS.1 U;by_cases K:x.id<id
  ·have j:lG (x::l) id=lG l id+1:=g7 K
   have u:j7 (x::l) id=j7 l id:=(by unfold j7;rw [j,List.getElem?_cons_succ]);rw [j,u,List.filter_cons_of_neg (by simp;omega),tail_drop l id h2];split<;>rw [Ty]
  ·have j:lG (x::l) id=0:=g3 K
   have u:j7 (x::l) id=(x.id==id):=(by unfold j7;rw [j];rfl);have z:l.filter (λx=>decide (id<x.id))=l:=List.filter_eq_self.2 λy hy=>(by have:=h1 y hy;simp;omega);rw [j,u];by_cases G:x.id=id
   ·rw [g7 (by simpa using G),List.filter_cons_of_neg (by simp;omega),z];rfl
   ·rw [g3 (by simpa using G),List.filter_cons_of_pos (by simp;omega),z];rfl
theorem MD {x:lK}(h:vr x):(0<x.jD\/0<x.e')↔(x.jD≠0\/x.e'≠0):=by
 have h1:=(iE h.jD).1;have h2:=(iE h.e').1;omega
theorem EE {l:List lK}(j:vd l)(x:lK):lS l x=l.take (lG l x.id)++(if x.jD≠0\/x.e'≠0 then [x]else [])++l.filter (λy=>decide (x.id<y.id)):=by
 rw [tail_drop l x.id j];rfl
theorem KT {b a:Int}(j:b<=9223372036854775807):lY b a=decide (9223372036854775807-b<a):=by
 unfold lY;rw [iH UN,Bool.false_or]
theorem MG {l:List Int}(j:l.Pairwise (· < ·)){x:Int}(G:x∉l){k:Nat}(h1: ∀y∈l.take k,y<x)(h2: ∀h:k<l.length,¬l[k]<x):l.take k++([x]++l.drop k)=od x l:=by
 have u: ∀y∈l.drop k,x<y:=by
  intro y hy;rcases kZ k l.length with h|h
  ·exact Ar j h (h2 h) G y hy
  ·rw [List.drop_eq_nil_of_le h]at hy;simp at hy
 refine t1 (yK j h1 u) (sQ x l j) λz=> ?_;rw [F9,sF];exact or_comm
theorem F8 {α:Type} {r:kS α} {B:Nat} {e:TypeId} {w0 w w':World} {v v':Value} {xs z:List α} (K:Below B w0 w) (U:B<=w0.heap.size) (h:Own r B e (λk=>B<=k) w v xs)
 (G:Own r B e (λk=>B<=k\/w.heap.size<=k) w' v' z) (j:Kept (λk=>v.ownBlock≠some k) w w'):
 ∃u y,v'= .slice u z.length y/\Own r B e (λk=>B<=k) w' (.slice u z.length y) z/\Below B w0 w':=by
 obtain⟨u,y,h1, -, -⟩:=g4.form G.slice;subst h1;have V:=iu U K.size;exact⟨u,y,rfl,G.mono λk _ j=>by rcases j with j|j<;>omega,Kept.behind K j V λk j e=>by have:=(h.lt e).2.2;omega⟩
theorem rv {P:Program} {ops:Array Oper} {rest:List Oper} {o:Oper} {a:Act} {Q:Exit->Act->World->Prop} (ae:o.guard=none) (s x:Operand) {t:TypeId}
 (ai:o.op= .call { callee:= .builtin .append,args:= #[s,x],argTypes:= #[t,t] }) {α:Type} {r:kS α} {B:Nat} {e:TypeId} {bytes:Nat} (ab:jj P t e r.n bytes) (aj:Plain r) {S:UO} {w0 w:World} {v u:Value} {xs ys j:List α}
 (ak:a.eval s=v) (ao:a.eval x=u) (V:xs++ys=j) (U:Below B w0 w) (K:B<=w0.heap.size) (h:Own r B e (λk=>B<=k) w v xs) (al:Src r S w u ys) (ah:j.length<=1000000) (ad:bytes<=1000)
 (Y: ∀y z w',Own r B e (λk=>B<=k) w' (.slice y j.length z) j->Below B w0 w'->wpList P ops Q rest (a.put o.dst (.slice y j.length z)) w'):
 wpList P ops Q (o::rest) a w:=by
 have ag:xs.length+ys.length=j.length:=by rw [<-V,U3]
 refine iC ae s x ai ab ak ao h (Src.plain (S':=λ_=>False) aj al) (λ_ _ h=>h.elim) (λ_ _ h=>h) (by unfold maxLen;omega) (by rw [ag];exact iu (Nat.mul_le_mul ah ad) UN) (iu K U.size) λv' w' G af _=> ?_;rw [V]at G;obtain⟨y,z,rfl,h1,h2⟩:=F8 U K h G af;exact Y y z w' h1 h2
theorem oR {P:Program} {ops:Array Oper} {rest:List Oper} {o:Oper} {a:Act} {Q:Exit->Act->World->Prop} (ab:o.guard=none) (s x:Operand) {t:TypeId}
 (ae:o.op= .call { callee:= .builtin .append,args:= #[s,x],argTypes:= #[t,t] }) {α:Type} {r:kS α} {B:Nat} {e te:TypeId} {bytes:Nat} (V:jj P t e r.n bytes) (af:Plain r) {S:UO} {w0 w:World} {v:Value} {xs j:List α} {y:α} {cs:List Value}
 (ag:a.eval s=v) (ah:a.eval x= .slice (some ⟨w.heap.size,0,none⟩) 1 1) (ai:xs++ [y]=j) (K:Below B w0 w) (G:B<=w0.heap.size) (h:Own r B e (λk=>B<=k) w v xs) (hy:r.rel S w cs y) (ad:j.length<=1000000) (Y:bytes<=1000)
 (U: ∀u z w',Own r B e (λk=>B<=k) w' (.slice u j.length z) j->Below B w0 w'->wpList P ops Q rest (a.put o.dst (.slice u j.length z)) w'):
 wpList P ops Q (o::rest) a (w.alloc (.cells cs.toArray te)):=by
 have hw:=jc w (.cells cs.toArray te);exact rv ab s x ae V af ag ah ai (K.trans (hw.mono (iu G K.size))) G (h.c' hw) (Src.one (r.c' hy hw) (jx.new w cs te)) ad Y U
theorem x3 {P:Program} {ops:Array Oper} {o:Oper} {a:Act} {G:Act->World->Prop} {Q:Exit->Act->World->Prop} {E:Prop} (af:o.guard=none) (s x:Operand) {t:TypeId}
 (aj:o.op= .call { callee:= .builtin .append,args:= #[s,x],argTypes:= #[t,t] }) {α:Type} {r:kS α} {B:Nat} {e:TypeId} {bytes:Nat} (ad:jj P t e r.n bytes) (ak:Plain r) {S:UO} {w0 w:World} {v u:Value} {xs ys j:List α}
 (al:a.eval s=v) (ap:a.eval x=u) (Y:xs++ys=j) (V:Below B w0 w) (U:B<=w0.heap.size) (h:Own r B e (λk=>B<=k) w v xs) (ao:Src r S w u ys) (ai:j.length<=1000000) (ae:bytes<=1000)
 (ab: ∀y z w',Own r B e (λk=>B<=k) w' (.slice y j.length z) j->Below B w0 w'->G (a.put o.dst (.slice y j.length z)) w'):
 if Region.wanted o (yielded ops a.tmps)=true then Oper.wp P o a w G Q else E:=by
 have ah:xs.length+ys.length=j.length:=by rw [<-Y,U3]
 refine iV af s x aj ad al ap h (Src.plain (S':=λ_=>False) ak ao) (λ_ _ h=>h.elim) (λ_ _ h=>h) (by unfold maxLen;omega) (by rw [ah];exact iu (Nat.mul_le_mul ai ae) UN) (iu U V.size) λv' w' K ag _=> ?_;rw [Y]at K;obtain⟨y,z,rfl,h1,h2⟩:=F8 V U h K ag;exact ab y z w' h1 h2
theorem ts {P:Program} {ops:Array Oper} {o:Oper} {a:Act} {u:Act->World->Prop} {Q:Exit->Act->World->Prop} {E:Prop} (ad:o.guard=none) (s x:Operand) {t:TypeId}
 (af:o.op= .call { callee:= .builtin .append,args:= #[s,x],argTypes:= #[t,t] }) {α:Type} {r:kS α} {B:Nat} {e te:TypeId} {bytes:Nat} (Y:jj P t e r.n bytes) (ag:Plain r) {S:UO} {w0 w:World} {v:Value} {xs j:List α} {y:α} {cs:List Value}
 (ah:a.eval s=v) (ai:a.eval x= .slice (some ⟨w.heap.size,0,none⟩) 1 1) (aj:xs++ [y]=j) (U:Below B w0 w) (K:B<=w0.heap.size) (h:Own r B e (λk=>B<=k) w v xs) (hy:r.rel S w cs y) (ae:j.length<=1000000) (ab:bytes<=1000)
 (V: ∀z G w',Own r B e (λk=>B<=k) w' (.slice z j.length G) j->Below B w0 w'->u (a.put o.dst (.slice z j.length G)) w'):
 if Region.wanted o (yielded ops a.tmps)=true then Oper.wp P o a (w.alloc (.cells cs.toArray te)) u Q else E:=by
 have hw:=jc w (.cells cs.toArray te);exact x3 ad s x af Y ag ah ai aj (U.trans (hw.mono (iu K U.size))) K (h.c' hw) (Src.one (r.c' hy hw) (jx.new w cs te)) ae ab V
open Tryz
theorem CK (S:UO)(w:World)(a:UP)(len cap:Nat)(l:List Int)(ab:l.length=len)(h:gZ.rel S w [.slice a len cap] l)(ai:len<=1000000)(x:Int):
 Calls prog 203 #[.slice a len cap,x] w (Rt w (.bool (decide (x∈l)))):=by
 obtain⟨H,Y⟩:=ik h ab;clear h ab;go_wp2;go_loopw [5] (λV wr=> ∃k:Nat,k<=len/\V= UZ k/\Hi (x∉l.take k)/\BW w wr) (λV _=>len-(intOf V).toNat)
 case atStart=>exact⟨0,iy _,rfl,by show x∉_;simp,g' _ _⟩
 case round=>
  obtain⟨k,ah,rfl,j,u⟩:=hrel;by_cases hlt:k<len
  ·have U:k<l.length:=by have:=Y.o;omega
   obtain⟨ag,off,rfl, -, -, -,c0⟩:=il (gZ.c' H.o u) k U;have K:Hi (l[k]=x->x∈l):=λe=>e▸z3 U;have G:Hi (l[k]≠x->x∉l.take (k+1)):=λe ad=>by
    rw [z4 U,Ti,TD]at ad;rcases ad with h1|h1
    ·exact j.o h1
    ·exact e h1.symm
   generalize l[k]=y at*
   have aj:(0:Int)<=(k:Int):=UN;have ak:(k:Int)<(len:Int):=UN;by_cases hy:y=x
   ·have af:(y==x)=true:=by simpa using hy
    have z:Hi (decide (x∈l)=true):=iP (K.o hy);clear hy K G j;go_wp2;go_ret;exact⟨g8 z.o.symm,u⟩
   ·have af:(y==x)=false:=by simpa using hy
    have ae:=Hd (G.o hy);clear hy K G j;go_wp2;go_roundw
    case rel=>exact⟨k+1,UN,by go_num,ae,u⟩
    case measure=>exact UY
  ·obtain rfl:k=len:=UN
   have z:Hi (decide (x∈l)=false):=iH (by have:=j.o;rw [<-Y.o,Sw]at this;exact this);clear j;go_wp2;go_ret;exact⟨g8 z.o.symm,u⟩
theorem PK (w:World)(a:UP)(len cap n:Nat)(h:n<=cap):
 (Instr.slice 55 (.slice a len cap) none (some (UZ (n:Int))) none).run prog w= .ok (.slice a n cap) w:=by
 have ht:prog.underlying 55=some (.slice 24):=UQ
 have y:prog.underlying 55=some (.slice (prog.elem 55)):=by simp [Program.elem,ht]
 have u:prog.elem 55=24:=by simp [Program.elem,ht]
 rw [run_slice_h w 55 _ _ _ y .i64 _ UN UN,u,Cw]
 cases a with
 |none=>simp [Result.andThen,sliced]
 |some j=>obtain⟨b,o,p⟩:=j;simp [Result.andThen,sliced,Addr.add]
def v9 (l:List Int)(k:Nat)(x:Int):Bool:=decide (k<l.length/\l.getD k 0<x)
def NumOut (l:List Int)(w:World)(e:Ending)(w':World):Prop:= ∃(a:UP) (c:Nat),e= .returned (.slice a l.length c)/\Own ib w.heap.size 24 (λk=>w.heap.size<=k) w' (.slice a l.length c) l/\BW w w'
theorem DB (S:UO)(w:World)(a:UP)(cap:Nat)(l:List Int)(h:gZ.rel S w [.slice a l.length cap] l)(bv:l.length<=100000)(aK:l.Pairwise (· < ·))(x:Int)(aL:iZ x)(aF:x∉l):
 Calls prog 140 #[.slice a l.length cap,x] w (NumOut (od x l) w):=by
 have br:=(g4.lens h).2.1;obtain⟨H,aW,aT,aX⟩:=oX h aK aF aL;clear h aK aF aL;go_wp2;go_loopw [5] (λar wr=> ∃k:Nat,k<=l.length/\ar= UZ k/\Hi (∀y∈l.take k,y<x)/\BW w wr) (λar _=>l.length-(intOf ar).toNat)
 case atStart=>exact⟨0,iy _,rfl,λy hy=>by simp at hy,g' _ _⟩
 case round=>
  obtain⟨k,ap,rfl,ad,aD⟩:=hrel;obtain⟨bm,bh⟩: ∃x,x=wr:=⟨_,rfl⟩;subst bh;have Y:=Hd aD;clear aD;go_upto_region 2 with(fail);go_cut [18]from 7 to 20 (λbj wc=>bj= .bool (v9 l k x)/\Hi (BW bm wc))
  case first=>
   by_cases af:k<l.length
   ·obtain⟨bq,bx,rfl, -, -, -,bf⟩:=il (gZ.c' H.o Y.o) k af
    have ae:Hi (v9 l k x=decide (l[k]<x)):=Hd (by unfold v9;rw [mD l k af];simp [af]);obtain⟨z,V⟩:=iF (l[k]);rw [V]at bf ae;have bn:decide ((k:Int)<(l.length:Int))=true:=iP UN;have a1:(0:Int)<=(k:Int):=UN;have a3:(k:Int)<(l.length:Int):=UN;clear V;go_wp2;go_meet
    case rel=>exact⟨by rw [ae.o],g' _ _⟩
   ·have ae:Hi (v9 l k x=false):=by show _=_;unfold v9;exact iH λh=>af h.1
    have bn:decide ((k:Int)<(l.length:Int))=false:=iH UN;go_wp2;go_meet
    case rel=>exact⟨by rw [ae.o],g' _ _⟩
  obtain⟨rfl,hbc⟩:=hcut;have ag:=Hd (d' Y.o hbc.o);clear hbc
  cases K:v9 l k x with
  |true=>
   have h1:k<l.length/\l.getD k 0<x:=(by unfold v9 at K;rwa [jk]at K);have h2:=h1.2;rw [mD l k h1.1]at h2;have aQ:Hi (∀z∈l.take (k+1),z<x):=λz V=>by
    rw [z4 h1.1,Ti,TD]at V;rcases V with bb|rfl
    ·exact ad.o z bb
    ·exact h2
   have bt:=h1.1;clear h1 h2 K ad Y;go_wp2;go_roundw
   case rel=>exact⟨k+1,UN,by go_num,aQ,ag.o⟩
   case measure=>first|(simp [intOf];done)|(simp [intOf];omega)
  |false=>
   have G:l.take k++([x]++l.drop k)=od x l:=MG aW.o aT.o ad.o (λh hlt=>by
    unfold v9 at K;rw [pg]at K;exact K ⟨h,by rw [mD l k h];exact hlt⟩)
   rw [<-Tt]at G;have aA:=ag.o.size;have ao:=hd ag.o (.cells #[] 24);have au:=Hd ao;have ai:=Hd (Src.of_slice (g4.takeN (gZ.c' H.o ao) k ap));have ab:Hi (∀w',BW w w'->gZ.rel S w' [.slice (H2 a k cap) (l.length-k) (cap-k)] (l.drop k)):=λw' be=>xk (gZ.c' H.o be) k ap;have aw:=Hd ((Own.empty ib w.heap.size 24 (gY wc (.cells #[] 24)) aA).mono (F':=λk=>w.heap.size<=k) λj _ bg=>by rw [bg];exact aA);have aJ:=λw=>AS w a l.length cap k ap;have U:Hi ((l.take k).length=k/\(l.take k++ [x]).length=k+1/\(od x l).length=l.length+1):=by
    have h1:(l.take k).length=k:=(by rw [Tq];omega);refine⟨h1,by rw [U3,h1];rfl,?_⟩;rw [<-G,U3,U3,h1,Ts];simp;omega
   obtain⟨P,ay⟩:=iF (l.take k);obtain⟨R,az⟩:=iF (l.drop k);rw [ay]at ai U G;rw [az]at ab G;obtain⟨a0,aj⟩:=iF (P++ [x]);obtain⟨bo,ak⟩:=iF (od x l);rw [aj]at U G;rw [ak]at U G;obtain⟨aY,aZ,aP⟩:=kT aj ak G;obtain⟨q,aI⟩:=iF (H2 a k cap);rw [aI]at ab aJ;obtain⟨bi,aE⟩:=iF (l.length-k);rw [aE]at ab aJ;have bw:=λw=>PK w a l.length cap k UN;have a1:(0:Int)<=(k:Int):=UN;have a3:(k:Int)<=(l.length:Int):=UN;have a2:k<=cap:=UN;have bp:(k:Int)<=(cap:Int):=UN;have ah:Hi (k<=100000/\l.length<=100000):=⟨UN,UN⟩;clear ay az aj ak G K ad Y ao aI aE;go_wp2_with (at_builtin;refine rv (r:=ib) (B:=w.heap.size) (w0:=w) (v:= .slice (some ⟨wc.heap.size,0,none⟩) 0 0) (u:= .slice a k cap) rfl _ _ rfl iX (Plain.int .u64) rfl rfl (TB _) au.o (g9 _) aw.o ai.o (by have:=U.o.1;have:=ah.o.1;omega) UN ?_)
   intro a4 a7 bz aG hb5;obtain⟨ax,av⟩:=ik aG hb5;clear aG hb5 aw au ai;go_wp2_with (at_builtin;refine oR (r:=ib) (B:=w.heap.size) (w0:=w) (v:= .slice a4 P.length a7) (y:=x) (S:=λ_=>True) (cs:= [U2 x]) rfl _ _ rfl iX (Plain.int .u64) rfl rfl aY.o av.o (g9 _) ax.o ⟨rfl,aX.o⟩ (by have:=U.o.2.1;have:=ah.o.1;omega) UN ?_)
   intro a5 a8 bk aH al;obtain⟨aU,aM,aO⟩:=kT aH al (Src.of_slice (ab.o bk al));clear aH al ax av;go_wp2_with (at_builtin;refine rv (r:=ib) (B:=w.heap.size) (w0:=w) (v:= .slice a5 a0.length a8) (u:= .slice q bi (cap-k)) rfl _ _ rfl iX (Plain.int .u64) rfl rfl aP.o aM.o (g9 _) aU.o aO.o (by have:=U.o.2.2;have:=ah.o.2;omega) UN ?_)
   intro a6 a9 bA aq aC;rw [<-aZ.o]at aq⊢;obtain⟨aV,aN⟩:=ik aq aC;clear aq aC;go_wp2;go_ret;exact⟨a6,a9,rfl,aV.o,aN.o⟩
theorem EK (w:World)(n:Nat)(V:n<=12):
 Calls prog 204 #[UZ n] w (Rt w (U2 (kp n))):=by
 go_in;go_wp2_with fail;refine UR (oy 6 UN (λ_=>True) w none 0 [] g4.nil US) λw1 hb1=> ?_;go_wp2;go_loopw [3,4] (λK z wr=> ∃k:Nat,k<=n/\z= UZ k/\K= U2 (kp k)/\BW w wr) (λ_ z _=>n-(intOf z).toNat)
 case atStart=>exact⟨0,iy _,rfl,rfl,hb1⟩
 case round=>
  obtain⟨k,U,rfl,rfl,G⟩:=hrel;have u:=Hd (pE k);by_cases hlt:k<n
  ·have j:Hi (ln (kp k) (kp k)=kp (k+1)):=rfl
   generalize kp k=x at*;go_wp2_with fail;refine UR (tu wr x x (D5 u.o) (D5 u.o)) λY hb3=> ?_;go_wp2;go_roundw
   case rel=>exact⟨k+1,UN,by go_num,by rw [<-j.o],d' G hb3⟩
   case measure=>exact UY
  ·obtain rfl:k=n:=UN
   clear u;obtain⟨x,y⟩:=iF (kp k);have j:=Hd y;rw [y];clear y;go_wp2;go_ret;exact⟨g2 j.o.symm,G⟩
def sliceLen:Value->Nat
 | .slice _ n _=>n
 |_=>0
def qf (ls:List Int)(k:Nat):List Int:=ls++List.replicate k (kp 0)
theorem Hp (ls:List Int)(k:Nat):(qf ls k).length=ls.length+k:=by unfold qf;simp
theorem Ff (ls:List Int)(k:Nat):qf ls (k+1)=qf ls k++ [kp 0]:=by unfold qf;rw [List.replicate_succ',Tt]
theorem EZ (S:UO)(w:World)(D:Nat)(aF:D<=12)(a:UP)(cap:Nat)(l:List Int)(h:gZ.rel S w [.slice a l.length cap] l)(ap:l.length<=2^D):
 Calls prog 144 #[UZ D,.slice a l.length cap] w (NumOut (oY l D 0) w):=by
 have aj:=Hd (EY l D ap);obtain⟨P,V⟩: ∃P:Nat,2^D=P:=⟨_,rfl⟩;have Y:(2:Int)^D=(P:Int):=by rw [<-V];push_cast;rfl
 obtain⟨aK,aM⟩:=x4 D aF Y;have aL:wrap64 ((2:Int)^D)=(P:Int):=by rw [Y];unfold wrap64;omega
 rw [V]at aj ap;have j:=Hd (Own.empty ib w.heap.size 24 (gY w (.cells #[] 24)) (g9 _));have ak:=Hd (Src.plain (S':=λ_=>False) (Plain.int .u64) (Src.of_slice (gZ.c' h (hd (g' _ _) (.cells #[] 24)))));have ad:=Hd (jc w (.cells #[] 24));clear h V Y;go_in;go_wp2_with (at_builtin;refine iC (r:=ib) (base:=w.heap.size) rfl _ _ rfl iX rfl rfl j.o ak.o (λ_ _ h=>h.elim) (λ_ _ h=>h) (by unfold maxLen;simp;omega) (by simp;omega) (by rw [U4];omega) ?_)
 intro aI au aq ao _;have ae:Hi (BW w au):=Kept.behind ad.o ao (by rw [U4];omega) λk aG h=>by have:=(j.o.lt h).2.2;omega
 have ah:Hi (Own ib w.heap.size 24 (λk=>w.heap.size<=k) au aI (qf l 0)):=by
  have:=aq.mono (F':=λk=>w.heap.size<=k) λk _ h=>(by rcases h with h|h<;>omega);show Own _ _ _ _ _ _ _;simpa [qf]using this
 clear aq ao j ak ad;go_wp2;go_loopw [5] (λab wr=> ∃k:Nat,l.length+k<=P/\Hi (Own ib w.heap.size 24 (λk=>w.heap.size<=k) wr ab (qf l k))/\Hi (BW w wr)) (λab _=>P-sliceLen ab)
 case atStart=>exact⟨0,UN,ah,ae⟩
 case round=>
  clear ah ae;obtain⟨k,aG,j,U⟩:=hrel;obtain⟨u,z,af⟩:=kT (Hp l k) (Ff l k) (pE 0);by_cases hlt:l.length+k<P
  ·obtain⟨L,G⟩:=iF (qf l k)
   rw [G]at j u z;clear G;obtain⟨oa,oc,rfl, -, -⟩:=iW j.o;have aJ:L.length<P:=(by have:=u.o;omega);have aA:Hi (L.length<=4095):=Hd (by have:=u.o;omega);go_wp2_with fail;refine UR (EK wr 0 UN) λaO hb5=> ?_;obtain⟨ai,K⟩:=ik (j.o.c' hb5) (d' U.o hb5);have aN:=K.o.size;obtain⟨y,hy⟩:=iF (kp 0);rw [hy]at z af⊢;have aC:=Hd (D5 af.o);clear hy hb5 j U;have az:Hi ((qf l (k+1)).length<=4096):=Hd (by rw [z.o,U3];have:=aA.o;simp;omega);have ax:Hi ((qf l (k+1)).length=L.length+1):=Hd (by rw [z.o,U3];rfl);go_wp2_with (at_builtin;refine oR (r:=ib) (B:=w.heap.size) (w0:=w) (v:= .slice oa L.length oc) (y:=y) (S:=λ_=>True) (cs:= [U2 y]) rfl _ _ rfl iX (Plain.int .u64) rfl rfl z.o.symm K.o (g9 _) ai.o ⟨rfl,aC.o⟩ (by have:=az.o;omega) UN ?_)
   intro aD aE aP ar al;obtain⟨ay,av⟩:=ik ar al;have aw:Hi (sliceLen (.slice aD (qf l (k+1)).length aE)=L.length+1):=ax.o;clear ar al ai K;go_wp2;go_roundw
   case rel=>exact⟨k+1,UN,ay,av⟩
   case measure=>rw [aw.o];simp [sliceLen];have:=u.o;omega
  ·have aH:k=P-l.length:=UN
   have ag:Hi (qf l k=oY l D 0):=Hd (by rw [aH];exact aj.o);obtain⟨L,G⟩:=iF (qf l k);rw [G]at j u ag;clear G z;obtain⟨oa,oc,rfl, -, -⟩:=iW j.o;have aJ: ¬L.length<P:=(by have:=u.o;omega);go_wp2;go_ret;rw [<-ag.o];exact⟨oa,oc,rfl,j.o,U.o⟩
def xv (l:List Int)(n:Nat):List Int:=(List.range n).map λq=>ln (l.getD (2*q) 0) (l.getD (2*q+1) 0)
theorem Js (l:List Int)(n:Nat):(xv l n).length=n:=by simp [xv]
theorem G8 (l:List Int)(n:Nat):xv l (n+1)=xv l n++ [ln (l.getD (2*n) 0) (l.getD (2*n+1) 0)]:=by unfold xv;rw [List.range_succ,T0];rfl
theorem G7 (S:UO)(w:World)(a:UP)(len cap:Nat)(l:List Int)(az:l.length=len)(h:gZ.rel S w [.slice a len cap] l)(aJ:len<=10000):
 Calls prog 145 #[.slice a len cap] w (NumOut (xQ l) w):=by
 subst az;have H:=Hd h;have HQ:Hi (xQ l=xv l (l.length / 2)):=rfl;clear h;go_wp2;go_loopw [3,4] (λaC V wr=> ∃k:Nat,2*k<=l.length/\V= UZ ((2*k:Nat):Int)/\Hi (Own ib w.heap.size 24 (λk=>w.heap.size<=k) wr aC (xv l k))/\Hi (BW w wr)) (λ_ V _=>l.length-(intOf V).toNat)
 case atStart=>exact⟨0,iy _,rfl,Own.nil _ _ _ _ _,g' _ _⟩
 case round=>
  obtain⟨k,ax,rfl,u,K⟩:=hrel;obtain⟨i,hi⟩:=iF (2*k);have aQ:wrap64 ((i:Int)+1)=(i:Int)+1:=(by unfold wrap64;omega);have aT:IntKind.i64.wrap ((i:Int)+1)=(i:Int)+1:=(by rw [rX];omega);have aU:((i:Int)+1).toNat=i+1:=UN;have aV:wrap64 ((i:Int)+2)=(i:Int)+2:=(by unfold wrap64;omega);obtain⟨U,j⟩:=ik (Js l k) (G8 l k);rw [hi]at ax j⊢;have z:=Hd hi;clear hi;by_cases hlt:i+1<l.length
  ·obtain⟨aG,off,rfl,av,p0,p1,c0⟩:=il (gZ.c' H.o K.o) i UN
   obtain⟨aH,aN,ae, -,aj,q1,c1⟩:=il (gZ.c' H.o K.o) (i+1) hlt;simp only [pd,qd]at ae;obtain⟨rfl,rfl, -⟩:=ae;have af:l.getD i 0=l[i]:=mD l i UN;have ag:l.getD (i+1) 0=l[i+1]:=mD l (i+1) hlt;rw [af,ag]at j;obtain⟨x,ai⟩:=iF (l[i]);obtain⟨y,hy⟩:=iF (l[i+1]);rw [ai]at p0 p1 c0 j;rw [hy]at aj q1 c1 j;have au:=c1;rw [<-xG]at au;clear af ag ai hy av;obtain⟨L,G⟩:=iF (xv l k);rw [G]at u U j;clear G;obtain⟨oa,oc,rfl, -, -⟩:=iW u.o;have aE:Hi (L.length<=10000):=Hd (by have:=U.o;have:=z.o;omega);have ao:=Hd (pT x y);have ab:Hi (iZ x/\iZ y):=⟨ir p0 p1,ir aj q1⟩;have aK:(0:Int)<=(i:Int):=UN;have aL:(i:Int)<(l.length:Int):=UN;have aM:(0:Int)<=(i:Int)+1:=UN;have aA:(i:Int)+1<(l.length:Int):=UN;have aD:decide ((i:Int)+1<(l.length:Int))=true:=iP aA;have ar:Hi ((xv l (k+1)).length<=10000):=Hd (by rw [j.o,U3];have:=U.o;have:=z.o;simp;omega);go_upto_region 5 with(fail)
   go_region_law (first
    |(refine ts (r:=ib) (B:=w.heap.size) (w0:=w) (v:= .slice oa L.length oc) (cs:= [U2 (ln x y)]) (y:=ln x y) (S:=λ_=>True) rfl _ _ rfl iX (Plain.int .u64) rfl rfl j.o.symm ak.o (g9 _) ap.o ⟨rfl,D5 ao.o⟩ (by have:=ar.o;omega) UN ?_
      intro aF aI aP ah ad;obtain⟨aq,al⟩:=ik ah ad;clear ah ad)
    |(go_simp
      go_at_call 205;refine UR (tu _ x y ab.o.1 ab.o.2) λaO hb5=> ?_;have ak:=Hd (d' K.o.drew hb5);have ap:=Hd ((u.o.c' (g' _ _).drew).c' hb5);clear hb5))
   all_goals
    go_wp2;go_roundw
    case rel=>
     have aw:=z.o;exact⟨k+1,UN,by go_num,aq,al⟩
    case measure=>
     have aw:=z.o
     first|(simp [intOf];done)|(simp [intOf];omega)
  ·have ay:k=l.length / 2:=by have:=z.o;omega
   have Y:Hi (xv l k=xQ l):=Hd (by rw [HQ.o,ay]);obtain⟨L,G⟩:=iF (xv l k);rw [G]at u Y;clear G j U;obtain⟨oa,oc,rfl, -, -⟩:=iW u.o;have aD:decide ((i:Int)+1<(l.length:Int))=false:=iH UN;go_wp2;go_ret;rw [<-Y.o];exact⟨oa,oc,rfl,u.o,K.o⟩
theorem vE (S:UO)(w:World)(D:Nat)(au:D<=12)(a:UP)(cap:Nat)(l:List Int)(h:gZ.rel S w [.slice a l.length cap] l)(ah:l.length<=2^D):
 Calls prog 91 #[UZ D,.slice a l.length cap] w (Rt w (U2 (mS l D 0))):=by
 obtain⟨H,al⟩:=ik h ah;clear h ah;go_in;go_wp2_with fail;refine(EZ S w D au a cap l H.o al.o).mono ?_;rintro e w1⟨ar,c1,rfl,ai,hb1⟩;obtain⟨Y,K⟩:=ik ai hb1;clear ai hb1;go_wp2;go_loopw [5] (λG wr=> ∃(k:Nat) (a:UP) (c:Nat),k<=D/\G= .slice a (oY l D k).length c/\Hi (gZ.rel (λ_=>True) wr [.slice a (oY l D k).length c] (oY l D k))/\Hi (BW w wr)) (λG _=>sliceLen G)
 case atStart=>exact⟨0,ar,c1,iy _,rfl,gZ.mono Y.o.slice λ_ _ _=>trivial,K⟩
 case round=>
  clear Y K;obtain⟨k,a,c,ax,rfl,j,U⟩:=hrel;have ao:=Hd (oP l D k);have u:Hi ((oY l D k).length<=4096):=by
   show _<=_;rw [oP];have:2^(D-k)<=2^12:=uq UN UN;omega
  clear ao;by_cases hlt:k<D
  ·have ad:=Hd (E9 l D k hlt)
   have ab:Hi (1<(oY l D k).length):=by
    show _<_;rw [oP];have:2^1<=2^(D-k):=uq UN UN;omega
   have V:Hi ((oY l D (k+1)).length<(oY l D k).length):=by
    show _<_;rw [oP,oP,show D-k=D-(k+1)+1 by omega,rV];have:0<2^(D-(k+1)):=vT UN;omega
   obtain⟨L,y⟩:=iF (oY l D k);rw [y]at j ad V u ab;rw [y];clear y;have ay:1<L.length:=ab.o;go_wp2_with fail;refine(G7 _ wr a L.length c L rfl j.o (by have:=u.o;omega)).mono ?_;rw [ad.o];rintro e av⟨af,ag,rfl,aj,hb5⟩;have ap:Hi (gZ.rel (λ_=>True) av [.slice af (oY l D (k+1)).length ag] (oY l D (k+1))):=gZ.mono aj.slice λ_ _ _=>trivial;have ak:=Hd (d' U.o hb5);clear aj hb5;go_wp2;go_roundw
   case rel=>exact⟨k+1,af,ag,UN,rfl,ap,ak⟩
   case measure=>exact V.o
  ·obtain rfl:k=D:=UN
   have ae:=Hd (Jr l k);have hr:=j.o;rw [ae.o]at hr⊢;obtain⟨aw,off,rfl, -, -, -,c0⟩:=il hr 0 US;obtain⟨x,z⟩:=iF (mS l k 0);have aq:=Hd z;simp only [TF,List.getElem_cons_zero,z,xE]at c0⊢;clear z ae u j hr;go_wp2;go_ret;exact⟨g2 aq.o.symm,U.o⟩
theorem Bj:jj prog 56 119 3 24:=jj.of underlying56 (z:= .agg #[U0,U0,U0]) UQ rfl UN
theorem CL (S:UO)(w:World)(a:UP)(cap:Nat)(l:List lK)(h:ih.rel S w [.slice a l.length cap] l)(aA:l.length<=1000000)(ak:vd l)(id:Int):
 Calls prog 142 #[.slice a l.length cap,id] w (Rt w (.agg #[U2 (pj l id).id,U2 (pj l id).jD,U2 (pj l id).e'])):=by
 have ag:=jc w (.cells #[U0,U0,U0] 119);obtain⟨aq,H,al,ap⟩:=oX (gY w (.cells #[U0,U0,U0] 119)) ((ih).c' h ag) ag ak;clear ag h ak;go_in;go_upto_region 1 with(fail);generalize w.alloc (.cells #[U0,U0,U0] 119)=W at*;go_wp2;go_loopw [5] (λah wr=> ∃k:Nat,k<=l.length/\ah= UZ k/\Hi (∀(j:Nat) (u:j<l.length),j<k->l[j].id≠id)/\Hi (BW W wr)) (λah _=>l.length-(intOf ah).toNat)
 case atStart=>exact⟨0,iy _,rfl,λj u h=>absurd h (pf _),g' _ _⟩
 case round=>
  obtain⟨k,az,rfl,z,K⟩:=hrel;obtain⟨U,ai⟩:=ik (b' K.o aq.o) (d' al.o K.o);by_cases hlt:k<l.length
  ·obtain⟨ax,off,rfl, -, -,aj,d0,d1,ar⟩:=o6 ((ih).c' H.o K.o) k hlt
   have ad:Hi (l[k].id=id->pj l id=l[k]):=λe=>Lb ap.o hlt e;have ab:Hi (l[k].id≠id-> ∀(j:Nat) (u:j<l.length),j<k+1->l[j].id≠id):=λe j u ay=>by
    rcases kZ j k with h1|h1
    ·exact z.o j u h1
    ·obtain rfl:j=k:=UN
     exact e
   generalize l[k]=y at*
   have aC:(0:Int)<=(k:Int):=UN;have aD:(k:Int)<(l.length:Int):=UN;by_cases hy:y.id=id
   ·have aw:(y.id==id)=true:=by simpa using hy
    have Y:=Hd (ad.o hy);clear hy ad ab z aj;go_wp2_with (refine kI rfl _ _ _ rfl w.heap.size _ rfl rfl _ _ U.o UQ rfl UQ ?_)
    obtain⟨av,G,V,ae⟩: ∃q,_=q/\Hi (BW w q)/\Hi (q.heap[w.heap.size]? =some (.cells #[y.id,y.jD,y.e'] 119 (0,0))):=
     ⟨_,rfl,below_setRow (g:=w.heap.size) ai.o (g9 _) #[y.id,y.jD,y.e'],kr _ _ _ _ _ _ U.o⟩
    rw [G];clear G;obtain⟨af, -⟩:=a' ae.o;refine iQ (v:= .agg #[y.id,y.jD,y.e']) (by simp [results,results142,go_sem,af]) rfl ?_;exact⟨by rw [Y.o],V.o⟩
   ·have aw:(y.id==id)=false:=by simpa using hy
    have ao:=Hd (ab.o hy);clear hy ad ab z d1 ar aj;go_wp2;go_roundw
    case rel=>exact⟨k+1,UN,by go_num,ao,K⟩
    case measure=>exact UY
  ·obtain rfl:k=l.length:=UN
   have Y:Hi (pj l id=⟨id,0,0⟩):=JX λx au=>by
    obtain⟨j,u,rfl⟩:=TH au;exact z.o j u u
   clear z;go_wp2_with (refine kI rfl _ _ _ rfl w.heap.size _ rfl rfl _ _ U.o UQ rfl UQ ?_)
   obtain⟨av,G,V,ae⟩: ∃q,_=q/\Hi (BW w q)/\Hi (q.heap[w.heap.size]? =some (.cells #[id,U0,U0] 119 (0,0))):=
    ⟨_,rfl,below_setRow (g:=w.heap.size) ai.o (g9 _) #[id,U0,U0],kr _ _ _ _ _ _ U.o⟩
   rw [G];clear G;obtain⟨af, -⟩:=a' ae.o;refine iQ (v:= .agg #[id,U0,U0]) (by simp [results,results142,go_sem,af]) rfl ?_;exact⟨by rw [Y.o],V.o⟩
def tailA (l:List lK)(id:Int):List lK:=l.filter λy=>decide (id<y.id)
theorem Ey (l:List lK)(id:Int)(k:Nat)(h:k<l.length):tailA (l.take (k+1)) id=tailA (l.take k) id++(if id<l[k].id then [l[k]]else []):=by
 unfold tailA;rw [z4 h,List.filter_append];by_cases j:id<l[k].id<;>simp [j]
theorem GD (l:List lK)(id:Int):(tailA l id).length<=l.length:=List.length_filter_le _ _
def Ih:lK:=⟨0,0,0⟩
def AZ (l:List lK)(k:Nat)(id:Int):Bool:=decide (k<l.length/\(l.getD k Ih).id<id)
theorem Gc (l:List lK)(k:Nat)(h:k<l.length):l.getD k Ih=l[k]:=by rw [U5,z2 h];rfl
theorem Gt {l:List lK}{k:Nat}(h:k<l.length)(id:Int):AZ l k id=decide (l[k].id<id):=by unfold AZ;rw [Gc l k h];simp [h]
def L7 (x:lK):Bool:=decide (0<x.jD\/0<x.e')
def pQ (B:Nat)(l:List lK)(w w':World)(a:UP)(c:Nat):Prop:=Own uf B 119 (λk=>B<=k) w' (.slice a l.length c) l/\Below B w w'
theorem Je (S:UO)(w:World)(a:UP)(cap:Nat)(l:List lK)(h:ih.rel S w [.slice a l.length cap] l)(b4:l.length<=100000)(a2:vd l)(x:lK)(a3:vr x):
 Calls prog 143 #[.slice a l.length cap,.agg #[x.id,x.jD,x.e']] w λe w'=> ∃(bj:UP) (bo:Nat),e= .returned (.slice bj (lS l x).length bo)/\ih.rel (λk=>w.heap.size<=k) w' [.slice bj (lS l x).length bo] (lS l x)/\BW w w':=by
 have a0:=jc w (.cells #[x.id,x.jD,x.e'] 119);obtain⟨aG,H,a6,bG,b1,bg,bf⟩:=OT (gY w (.cells #[x.id,x.jD,x.e'] 119)) ((ih).c' h a0) a0 a3 a2 (EE a2 x) (xl l x.id);have aQ:Hi (L7 x=true↔(x.jD≠0\/x.e'≠0)):=by show _↔_;unfold L7;rw [jk];exact MD a3
 have aP:Hi (L7 x=decide (0<x.jD\/0<x.e')):=rfl;clear a0 h a3 a2;go_in;go_upto_region 1 with(fail);generalize w.alloc (.cells #[x.id,x.jD,x.e'] 119)=W at*;go_wp2;go_loopw [5,6] (λa4 ak wr=> ∃(k:Nat) (oa:UP) (oc:Nat),k<=l.length/\ak= UZ k/\a4= .slice oa (l.take k).length oc/\Hi (∀(j:Nat) (aj:j<l.length),j<k->l[j].id<x.id)/\Hi (pQ W.heap.size (l.take k) W wr oa oc)) (λ_ ak _=>l.length-(intOf ak).toNat)
 case atStart=>exact⟨0,none,0,iy _,rfl,rfl,λj aj h=>absurd h (pf _),Own.nil _ _ _ _ _,g' _ _⟩
 case round=>
  obtain⟨k,oa,oc,aM,rfl,rfl,aO,u⟩:=hrel;obtain⟨bY,bP⟩: ∃x,x=wr:=⟨_,rfl⟩;subst bP;have U:Hi (∀h:k<l.length,l.take k++ [l[k]]=l.take (k+1)):=λh=>(z4 h).symm;have aX:Hi ((l.take (k+1)).length<=100000):=Hd (by rw [Tq];omega);have aU:Hi (AZ l k x.id=false->lG l x.id=k):=λbL=>bf.o k aM (λj aj bv=>aO.o j aj bv) λbM=>by
   rw [Gt bM,pg]at bL;omega
  have aV:Hi (AZ l k x.id=true->k<l.length/\ ∀(j:Nat) (aj:j<l.length),j<k+1->l[j].id<x.id):=λht=>by
   have h1:k<l.length/\(l.getD k Ih).id<x.id:=(by unfold AZ at ht;rwa [jk]at ht);refine⟨h1.1,λj aj bv=> ?_⟩;rcases kZ j k with h2|h2
   ·exact aO.o j aj h2
   ·obtain rfl:j=k:=UN
    rw [<-Gc l j aj];exact h1.2
  obtain⟨P,aY⟩:=iF (l.take k);have aE:=Hd aY;rw [aY]at u U⊢;clear aY aO;go_upto_region 3 with(fail);go_cut [21]from 8 to 30 (λbU wc=>bU= .bool (AZ l k x.id)/\Hi (BW bY wc))
  case first=>
   have al:=g0 (b' u.o.2 aG.o);by_cases aZ:k<l.length
   ·obtain⟨bn,bC,rfl, -, -, -,d0, -, -⟩:=o6 ((ih).c' H.o u.o.2) k aZ
    have aF:=Hd (Gt aZ x.id);obtain⟨z,af⟩:=iF (l[k].id);rw [af]at d0 aF;have a5:=hW d0;have aC:decide ((k:Int)<(l.length:Int))=true:=iP UN;have bk:(0:Int)<=(k:Int):=UN;have bm:(k:Int)<(l.length:Int):=UN;clear d0 af;go_wp2;refine m6 ?_
    repeat (first|go_big_quiet_step (fail)|quiet_step (fail))
    refine lz ?_;intro wq ai;clear al a5;go_wp2;go_meet
    case rel=>exact⟨by rw [aF.o],ai⟩
   ·have aF:Hi (AZ l k x.id=false):=by show _=_;unfold AZ;exact iH λh=>aZ h.1
    have aC:decide ((k:Int)<(l.length:Int))=false:=iH UN;go_wp2;refine m6 ?_
    repeat (first|go_big_quiet_step (fail)|quiet_step (fail))
    refine lz ?_;intro wq ai;clear al;go_wp2;go_meet
    case rel=>exact⟨by rw [aF.o],ai⟩
  obtain⟨rfl,hbc⟩:=hcut;have ag:Hi (pQ W.heap.size P W wc oa oc):=⟨u.o.1.c' hbc.o,d' u.o.2 hbc.o⟩;clear hbc u
  cases aN:AZ l k x.id with
  |true=>
   obtain⟨bw,bz⟩:=aV.o aN;have bF:=Hd bz;obtain⟨bn,bC,rfl, -, -,ax,d0,d1,K⟩:=o6 ((ih).c' H.o ag.o.2) k bw;obtain⟨V,av⟩:=ik (U.o bw) ax;obtain⟨y,hy⟩:=iF (l[k]);rw [hy]at d0 d1 K av V;have bk:(0:Int)<=(k:Int):=UN;have bm:(k:Int)<(l.length:Int):=UN;clear bz ax hy aN aV aU U aE;obtain⟨Z,ah⟩:=iF (l.take (k+1));have bJ:=Hd ah;rw [ah]at V aX;clear ah;go_wp2_with (at_builtin;refine oR (r:=uf) (B:=W.heap.size) (w0:=W) (v:= .slice oa P.length oc) (y:=y) (S:=λ_=>True) (cs:= [U2 y.id,U2 y.jD,U2 y.e']) rfl _ _ rfl Bj rq rfl rfl V.o ag.o.2 (g9 _) ag.o.1 (uf.mk av.o) (by have:=aX.o;omega) UN ?_)
   intro Y ab aA ae ad;have G:Hi (pQ W.heap.size Z W aA Y ab):=⟨ae,ad⟩;clear ae ad d0 d1 K;go_wp2_with fail;rw [<-bJ.o]at G⊢;go_roundw
   case rel=>exact⟨k+1,Y,ab,UN,by go_num,rfl,bF,G⟩
   case measure=>first|(simp [intOf];done)|(simp [intOf];omega)
  |false=>
   have bb:=Hd (aU.o aN);have aW:Hi (lS l x=P++(if x.jD≠0\/x.e'≠0 then [x]else [])++tailA l x.id):=by
    show _=_;rw [bg.o,bb.o,aE.o];rfl
   have aT:Hi (P.length<=100000):=Hd (by rw [<-aE.o,Tq];omega);clear aN aV aU U aE bg bf aX bb aM;obtain⟨b0,bR⟩: ∃x,x=wc:=⟨_,rfl⟩;subst bR;go_upto_region 6 with(fail);go_cut [38]from 31 (λbV wd=>bV= .bool (L7 x)/\Hi (BW b0 wd))
   case first=>
    obtain⟨al,bD⟩:=a' (b' ag.o.2 aG.o);by_cases h1:0<x.jD
    ·have HQ:Hi (L7 x=true):=by show _=_;rw [aP.o];exact iP (.inl h1)
     have aC:decide (0<x.jD)=true:=iP h1;go_wp2;go_meet
     case rel=>exact⟨by rw [HQ.o],g' _ _⟩
    ·have aC:decide (0<x.jD)=false:=iH h1
     have HQ:Hi (L7 x=decide (0<x.e')):=Hd (by rw [aP.o,sr];omega);go_wp2;go_meet
     case rel=>exact⟨by rw [HQ.o],g' _ _⟩
   obtain⟨rfl,a1⟩:=hcut;have au:Hi (pQ W.heap.size P W wc oa oc):=⟨ag.o.1.c' a1.o,d' ag.o.2 a1.o⟩;clear a1 ag;obtain⟨b6,bS⟩: ∃x,x=wc:=⟨_,rfl⟩;subst bS;go_upto_if 38 with(fail);go_cut [5]from 38 (λbW bX=> ∃(M:List lK) (aH:UP) (aI:Nat),bW= .slice aH M.length aI/\Hi (lS l x=M++tailA l x.id)/\Hi (M.length<=100001)/\Hi (pQ W.heap.size M W bX aH aI))
   case first=>
    cases aw:L7 x with
    |true=>
     have ap:Hi (lS l x=(P++ [x])++tailA l x.id):=Hd (by rw [aW.o,g7 (aQ.o.1 aw)]);have af:P++ [x]=P++ [x]:=rfl;obtain⟨M,aJ⟩:=iF (P++ [x]);have bE:=Hd aJ;rw [aJ]at ap;have aq:Hi (M.length<=100001):=Hd (by rw [<-aJ,U3];have:=aT.o;simp;omega);obtain⟨al,bD⟩:=a' (b' au.o.2 aG.o);clear aJ aw af;go_wp2_with (at_builtin;refine oR (r:=uf) (B:=W.heap.size) (w0:=W) (v:= .slice oa P.length oc) (y:=x) (S:=λ_=>True) (cs:= [U2 x.id,U2 x.jD,U2 x.e']) rfl _ _ rfl Bj rq rfl rfl bE.o au.o.2 (g9 _) au.o.1 (uf.mk bG.o) (by have:=aq.o;omega) UN ?_)
     intro Y ab aA ae ad;have G:Hi (pQ W.heap.size M W aA Y ab):=⟨ae,ad⟩;clear ae ad al bD;go_wp2;go_meet
     case rel=>exact⟨M,Y,ab,rfl,ap,aq,G⟩
    |false=>
     have ap:Hi (lS l x=P++tailA l x.id):=Hd (by rw [aW.o,g3 (λh=>by rw [aQ.o.2 h]at aw;simp at aw),T2]);have aq:Hi (P.length<=100001):=Nat.le_succ_of_le aT.o;clear aw;go_wp2;go_meet
     case rel=>exact⟨P,oa,oc,rfl,ap,aq,au⟩
   obtain⟨M,aH,aI,rfl,ap,aq,be⟩:=hcut;clear au aW aT aQ aP;go_wp2;go_loopw [5,7] (λa4 ak wr=> ∃(k:Nat) (oa:UP) (oc:Nat),k<=l.length/\ak= UZ k/\a4= .slice oa (M++tailA (l.take k) x.id).length oc/\Hi (pQ W.heap.size (M++tailA (l.take k) x.id) W wr oa oc)) (λ_ ak _=>l.length-(intOf ak).toNat)
   case atStart=>
    have bx:M++tailA (l.take 0) x.id=M:=(by simp [tailA]);exact⟨0,aH,aI,iy _,rfl,by rw [bx],by show pQ _ _ _ _ _ _;rw [bx];exact be.o⟩
   case round=>
    clear be;obtain⟨q,ay,az,b5,rfl,rfl,u⟩:=hrel;obtain⟨bZ,bQ⟩: ∃x,x=wr:=⟨_,rfl⟩;subst bQ;have bh:Hi ((M++tailA (l.take (q+1)) x.id).length<=300000):=Hd (by rw [U3];have h1:=GD (l.take (q+1)) x.id;rw [Tq]at h1;have:=aq.o;omega);by_cases bA:q<l.length
    ·have U:=Hd (Ey l x.id q bA)
     obtain⟨bn,bC,rfl, -, -,ax,d0,d1,K⟩:=o6 ((ih).c' H.o u.o.2) q bA;have av:=Hd ax;obtain⟨y,hy⟩:=iF (l[q]);rw [hy]at d0 d1 K av U;have bk:(0:Int)<=(q:Int):=UN;have bm:(q:Int)<(l.length:Int):=UN;clear ax hy;have al:=g0 (b' u.o.2 aG.o);have a5:=hW d0;have bp:=d0;have bq:=d1;have br:=K;clear d0 d1 K;obtain⟨a7,a8,a9⟩:=kT bp bq br;clear bp bq br;obtain⟨Z,ah⟩:=iF (M++tailA (l.take q) x.id);obtain⟨ar,aK⟩:=iF (M++tailA (l.take (q+1)) x.id);have V:Hi (ar=Z++(if x.id<y.id then [y]else [])):=Hd (by rw [<-aK,U.o,<-ah,Tt]);have bi:=Hd aK;rw [ah]at u⊢;rw [aK]at bh;clear ah aK U;go_wp2;refine m6 ?_
     repeat (first|go_big_quiet_step (fail)|quiet_step (fail))
     refine wpQuiet_nil ?_;intro wq bO;obtain⟨⟨bK,bT⟩,bB⟩:=bO;have ai:=lm bZ bK bT;rw [<-bB]at ai;have ao:=Hd ai;clear bB al a5 ai;have aD:Hi (pQ W.heap.size Z W wq ay az):=⟨u.o.1.c' ao.o,d' u.o.2 ao.o⟩;have d0:=(Kept.of_below (S:=λ_=>True) ao.o).cell trivial a7.o;have d1:=(Kept.of_below (S:=λ_=>True) ao.o).cell trivial a8.o;have K:=(Kept.of_below (S:=λ_=>True) ao.o).cell trivial a9.o;clear u ao a7 a8 a9;by_cases aL:x.id<y.id
     ·have aC:decide (x.id<y.id)=true:=iP aL
      have bH:Hi (Z++ [y]=ar):=Hd (by rw [V.o,g7 aL]);clear V;go_wp2_with (at_builtin;refine oR (r:=uf) (B:=W.heap.size) (w0:=W) (v:= .slice ay Z.length az) (y:=y) (S:=λ_=>True) (cs:= [U2 y.id,U2 y.jD,U2 y.e']) rfl _ _ rfl Bj rq rfl rfl bH.o aD.o.2 (g9 _) aD.o.1 (uf.mk av.o) (by have:=bh.o;omega) UN ?_)
      intro Y ab aA ae ad;have G:Hi (pQ W.heap.size ar W aA Y ab):=⟨ae,ad⟩;clear ae ad d0 d1 K;go_wp2_with fail;rw [<-bi.o]at G⊢;go_roundw
      case rel=>exact⟨q+1,Y,ab,UN,by go_num,rfl,G⟩
      case measure=>first|(simp [intOf];done)|(simp [intOf];omega)
     ·have aC:decide (x.id<y.id)=false:=iH aL
      have af:ar=Z:=(by rw [V.o,g3 aL,T2]);have G:Hi (pQ W.heap.size ar W wq ay az):=(by rw [af];exact aD);have bI:Hi (Z.length=ar.length):=Hd (by rw [af]);clear V af d0 d1 K aD;rw [bI.o];go_wp2_with fail;rw [<-bi.o]at G⊢;go_roundw
      case rel=>exact⟨q+1,ay,az,UN,by go_num,rfl,G⟩
      case measure=>first|(simp [intOf];done)|(simp [intOf];omega)
    ·obtain rfl:q=l.length:=UN
     have bt:M++tailA (l.take l.length) x.id=lS l x:=(by rw [Sw,ap.o]);rw [bt]at u⊢;clear bt;go_wp2;go_ret;have bN:=a6.o.size;exact⟨ay,az,rfl,(ih).mono u.o.1.slice λk _ aM=>iu bN aM,d' a6.o u.o.2⟩
theorem Is (S:UO)(w:World)(a:UP)(cap:Nat)(l:List lK)(h:ih.rel S w [.slice a l.length cap] l)(y:l.length<=100000)(z:vd l)(id jD e':Int)(G:vr ⟨id,jD,e'⟩):
 Calls prog 143 #[.slice a l.length cap,.agg #[id,jD,e']] w λe w'=> ∃(j:UP) (u:Nat),e= .returned (.slice j (lS l ⟨id,jD,e'⟩).length u)/\ih.rel (λk=>w.heap.size<=k) w' [.slice j (lS l ⟨id,jD,e'⟩).length u] (lS l ⟨id,jD,e'⟩)/\BW w w':=Je S w a cap l h y z ⟨id,jD,e'⟩ G
def qV (l:List lK)(err:Int)(w:World)(e:Ending)(w':World):Prop:= ∃(a:UP) (c:Nat),e= .returned (.tuple #[.slice a l.length c,UZ err])/\ih.rel (λk=>w.heap.size<=k) w' [.slice a l.length c] l/\BW w w'
theorem qV.bad {l:List lK}{err j:Int}{w w':World}(h:l= []/\err=j)(u:BW w w'):qV l err w (.returned (.tuple #[S0,UZ j])) w':=by
 obtain⟨rfl,rfl⟩:=h;exact⟨none,0,rfl,g4.nil,u⟩
theorem qV.good {l L:List lK}{err:Int}{w j u:World}{a:UP}{c:Nat}(h:l=L/\err=0)(y:BW w j)(hr:ih.rel (λk=>j.heap.size<=k) u [.slice a L.length c] L)(hb5:BW j u):qV l err w (.returned (.tuple #[.slice a L.length c,I0])) u:=by
 obtain⟨rfl,rfl⟩:=h;exact⟨a,c,rfl,(ih).mono hr λk _ z=>iu y.size z,d' y hb5⟩
theorem wE (S:UO)(w:World)(a:UP)(cap:Nat)(l:List lK)(h:ih.rel S w [.slice a l.length cap] l)(ay:l.length<=100000)(ap:vd l)(ai:oj l)(id j:Int)(aj:iZ id)(ax:iZ j):
 Calls prog 90 #[.slice a l.length cap,id,j] w (qV (jH l id j) (kV l id j) w):=by
 obtain⟨ae,ak⟩:=A6 h id aj;have ah:=Bo ai id;have H:=Hd h;have HQ:Hi ((9223372036854775807-(pj l id).jD<j->jH l id j= []/\kV l id j=1)/\(¬9223372036854775807-(pj l id).jD<j->jH l id j=lS l ⟨id,(pj l id).jD+j,(pj l id).e'⟩/\kV l id j=0)):=by
  show _/\_;unfold jH kV rr;rw [KT ah];exact⟨λh=>by rw [iP h];exact⟨rfl,rfl⟩,λh=>by rw [iH h];exact⟨rfl,rfl⟩⟩
 have z:=Hd ae;clear h ae ai;go_in;go_wp2_with fail;refine UR (CL S w a cap l H.o UN ap id) λw1 hb1=> ?_;obtain⟨m,al⟩:=iF (pj l id);rw [al]at HQ z ak ah⊢;clear al;subst ak;obtain⟨G,y⟩:=ik (gY w1 (.cells #[m.id,m.jD,m.e'] 119)) (hd hb1 (.cells #[m.id,m.jD,m.e'] 119));have af:Hi (w.heap.size<=w1.heap.size):=hb1.size;go_upto_region 2 with(fail);generalize w1.alloc (.cells #[m.id,m.jD,m.e'] 119)=aA at*;obtain⟨X,ag⟩:=iF (w1.heap.size);rw [ag]at G af⊢;clear ag hb1;have aF:=iE ax;have aH:=iE z.o.jD;obtain⟨V,Y⟩:=a' G.o;have aG:IntKind.u64.wrap (9223372036854775807-m.jD)=9223372036854775807-m.jD:=by rw [jP];omega
 by_cases U:9223372036854775807-m.jD<j
 ·have u:=Hd (HQ.o.1 U)
  have aC:decide (9223372036854775807-m.jD<j)=true:=iP U;clear HQ;go_wp2;go_ret2;exact qV.bad u.o y.o
 ·have u:=Hd (HQ.o.2 UN)
  have aC:decide (9223372036854775807-m.jD<j)=false:=iH U;have ar:IntKind.u64.wrap (m.jD+j)=m.jD+j:=(by rw [jP];omega);have ab:Hi (vr ⟨m.id,m.jD+j,m.e'⟩):=⟨aj,ir (by show(0:Int)<=m.jD+j;omega) (by show m.jD+j<_;omega),z.o.e'⟩;obtain⟨B,K⟩:=iF (m.jD+j);rw [K]at u ab;replace ar:IntKind.u64.wrap (m.jD+j)=B:=ar.trans K;clear HQ K;go_upto_region 5 with(fail)
  obtain⟨az,aq,ad,aw⟩: ∃q,aA.setCell ⟨X,1,none⟩ (U2 B)=q/\Hi (BW w q)/\Hi (q.heap[X]? =some (.cells #[m.id,B,m.e'] 119 (0,0))):=
   ⟨_,rfl,j4 y.o af.o _ y.o.size,yk (l:= [U2 m.id,U2 m.jD,U2 m.e']) G.o⟩
  rw [aq];clear aq V Y;obtain⟨V,Y⟩:=a' aw.o;go_wp2_with fail;refine(Is S az a cap l ((ih).c' H.o ad.o) ay ap m.id B m.e' ab.o).mono ?_;rintro e aI⟨aD,aE,rfl,ao,hb5⟩;obtain⟨av,au⟩:=ik ao hb5;clear ao hb5 V Y;go_wp2;go_ret2;exact qV.good u.o ad.o av.o au.o
theorem yB (S:UO)(w:World)(a:UP)(cap:Nat)(l:List lK)(h:ih.rel S w [.slice a l.length cap] l)(aI:l.length<=100000)(ax:vd l)(aq:oj l)(id j e':Int)(ar:iZ id)(aG:iZ j)(aJ:iZ e'):
 Calls prog 141 #[.slice a l.length cap,id,j,e'] w (qV (lx l id j e') (jM l id j e') w):=by
 obtain⟨aj,au⟩:=A6 h id ar;have aH:=Bo aq id;have H:=Hd h;have HQ:Hi ((j=0->lx l id j e'= []/\jM l id j e'=1)/\(j≠0->(e'≠(pj l id).e'\/e'=18446744073709551615->lx l id j e'= []/\jM l id j e'=20)/\(¬(e'≠(pj l id).e'\/e'=18446744073709551615)->((pj l id).jD<j->lx l id j e'= []/\jM l id j e'=15)/\(¬(pj l id).jD<j->lx l id j e'=lS l ⟨id,(pj l id).jD-j,e'+1⟩/\jM l id j e'=0)))):=by
  show _/\_;unfold lx jM;refine⟨λh1=>by rw [g7 h1];exact⟨rfl,rfl⟩,λh1=>⟨λh2=>by rw [g3 h1,g7 h2];exact⟨rfl,rfl⟩,λh2=>⟨λy=>by rw [g3 h1,g3 h2,g7 y];exact⟨rfl,rfl⟩,λy=>by rw [g3 h1,g3 h2,g3 y];exact⟨rfl,rfl⟩⟩⟩⟩
 have ak:=Hd aj;clear h aj aq;go_in;go_wp2_with fail;refine UR (CL S w a cap l H.o UN ax id) λw1 hb1=> ?_;obtain⟨m,av⟩:=iF (pj l id);rw [av]at HQ ak au aH⊢;clear av;subst au;obtain⟨ad,z⟩:=ik (gY w1 (.cells #[m.id,m.jD,m.e'] 119)) (hd hb1 (.cells #[m.id,m.jD,m.e'] 119));have ab:Hi (w.heap.size<=w1.heap.size):=hb1.size;go_upto_region 2 with(fail);generalize w1.alloc (.cells #[m.id,m.jD,m.e'] 119)=aM at*;obtain⟨X,ao⟩:=iF (w1.heap.size);rw [ao]at ad ab⊢;clear ao hb1;have aV:=iE aG;have aX:=iE ak.o.jD;obtain⟨K,U⟩:=a' ad.o;have aW:=iE aJ;by_cases h1:j=0
 ·have u:=Hd (HQ.o.1 h1)
  have aN:(j==0)=true:=(by rw [iO];exact h1);clear h1 HQ;go_wp2;go_ret2;exact qV.bad u.o z.o
 ·have aN:(j==0)=false:=by rw [je];exact h1
  have G:=Hd (HQ.o.2 h1);clear HQ;by_cases h2:e'=m.e'
  ·subst h2
   have aO:(m.e' != m.e')=false:=US;by_cases y:m.e'=18446744073709551615
   ·have u:=Hd (G.o.1 (.inr y))
    have aP:(m.e'==18446744073709551615)=true:=(by rw [iO];exact y);clear h1 y G;go_wp2;go_ret2;exact qV.bad u.o z.o
   ·have aP:(m.e'==18446744073709551615)=false:=by rw [je];exact y
    have V:=Hd (G.o.2 (by rintro(h|h);exact h rfl;exact y h));clear G;by_cases ae:m.jD<j
    ·have u:=Hd (V.o.1 ae)
     have aQ:decide (m.jD<j)=true:=iP ae;clear h1 y V;go_wp2;go_ret2;exact qV.bad u.o z.o
    ·have u:=Hd (V.o.2 UN)
     have aQ:decide (m.jD<j)=false:=iH ae;have aC:IntKind.u64.wrap (m.jD-j)=m.jD-j:=(by rw [jP];omega);have aA:IntKind.u64.wrap (m.e'+1)=m.e'+1:=(by rw [jP];omega);have Y:Hi (vr ⟨m.id,m.jD-j,m.e'+1⟩):=⟨ar,ir (by show(0:Int)<=m.jD-j;omega) (by show m.jD-j<_;omega),ir (by show(0:Int)<=m.e'+1;omega) (by show m.e'+1<_;omega)⟩;obtain⟨B,af⟩:=iF (m.jD-j);obtain⟨N,ag⟩:=iF (m.e'+1);rw [af]at u Y;rw [ag]at u Y;replace aC:IntKind.u64.wrap (m.jD-j)=B:=aC.trans af;replace aA:IntKind.u64.wrap (m.e'+1)=N:=aA.trans ag;clear h1 y V af ag;go_upto_region 9 with(fail)
     obtain⟨aK,ay,ah,al⟩: ∃q,aM.setCell ⟨X,1,none⟩ (U2 B)=q/\Hi (BW w q)/\Hi (q.heap[X]? =some (.cells #[m.id,B,m.e'] 119 (0,0))):=
      ⟨_,rfl,j4 z.o ab.o _ z.o.size,yk (l:= [U2 m.id,U2 m.jD,U2 m.e']) ad.o⟩
     rw [ay];clear ay K U;obtain⟨K,U⟩:=a' al.o;go_upto_region 10 with(fail)
     obtain⟨aL,az,ai,aF⟩: ∃q,aK.setCell ⟨X,2,none⟩ (U2 N)=q/\Hi (BW w q)/\Hi (q.heap[X]? =some (.cells #[m.id,B,N] 119 (0,0))):=
      ⟨_,rfl,j4 ah.o ab.o _ ah.o.size,yk (l:= [U2 m.id,U2 B,U2 m.e']) al.o⟩
     rw [az];clear az K U;obtain⟨K,U⟩:=a' aF.o;go_wp2_with fail;refine(Is S aL a cap l ((ih).c' H.o ai.o) aI ax m.id B N Y.o).mono ?_;rintro e aY⟨aT,aU,rfl,aw,ap⟩;obtain⟨aE,aD⟩:=ik aw ap;clear aw ap K U;go_wp2;go_ret2;exact qV.good u.o ai.o aE.o aD.o
  ·have aO:(e' != m.e')=true:=by rw [iB];exact h2
   have u:=Hd (G.o.1 (.inl h2));clear h1 h2 G;go_wp2;go_ret2;exact qV.bad u.o z.o
end Go.Proofs.YtjdiofjjoefnhaaGreatDoor
