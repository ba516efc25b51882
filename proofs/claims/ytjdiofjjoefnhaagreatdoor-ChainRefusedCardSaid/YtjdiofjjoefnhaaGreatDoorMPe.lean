/- Bytes as a string. -/
import Derived.Lib.ConvBytes
import Derived.Test.YtjdiofjjoefnhaaGreatDoorMSo
import Derived.Test.YtjdiofjjoefnhaaGreatDoorMPoC
set_option maxRecDepth 100000
set_option maxHeartbeats 4000000
namespace Go.Proofs.YtjdiofjjoefnhaaGreatDoor
open Tryz Go.ChangeShapes Go.WideShapes Go.ChangeAt Go.RowKit
theorem yj {S:UO}{w:World}{a:UP}{len cap:Nat}{xs:List Int}(h:hD.rel S w [.slice a len cap] xs):(convert 52 9 (.slice a len cap)).run prog w= .ok (.string (strOfNums xs)) w:=by
 obtain⟨rfl, -⟩:=g4.lens h
 cases xs with
 |nil=>
  cases a with
  |none=>exact run_convert_bytes_nil w 52 5 underlying52 underlying5 _ _ 9 underlying9
  |some j=>
   rw [run_convert_bytes_string w 52 9 5 _ _ cap underlying52 underlying5 underlying9,run_bytesToString w _ _ cap [] (by simp [loadCells,loadCellsFrom])];rfl
 |cons x xs=>
  obtain⟨b,off,rfl, -⟩:=bytes_at h 0 US;refine run_convert_bytes_arg w 52 5 underlying52 underlying5 b off _ cap (x::xs) rfl (λi hi=> ?_) 9 underlying9;obtain⟨u,y,h1, -, -, -, -,h2⟩:=bytes_at h i hi;simp only [pd,qd]at h1;obtain⟨rfl,rfl, -⟩:=h1;rw [h2,U5,z2 hi];rfl
theorem I1 (s:ByteArray):(s.toList==s.toList)=true:=beq_self_eq_true _
theorem sK {P:Program}{md:Region.Mode}{ops:Array Oper}{Q:Exit->Act->World->Prop}{S S':World->Prop}(h: ∀w,S' w->S w): ∀(fuel:Nat) (listed:Array Bool) (a:Act) (w:World),wpAnyH P md ops Q S' fuel listed a w->wpAnyH P md ops Q S fuel listed a w
 |0,_,_,_,j=>j
 |fuel+1,_,_,_,j=>⟨j.1,λi hi=>wpOp_mono (λu w' q=>⟨h _ q.1,sK h fuel _ u w' q.2⟩) (j.2 i hi)⟩
theorem My.next {a b c:World}(h:BW a b)(j:My b c):My a c:=⟨d' h j.mx⟩
open Go.Sort Go.Maps
theorem Ad (l:List Int)(x:Int):(getM (p7 l) x).isSome=decide (x∈l):=by
 rw [x6];split<;>simp [*]
structure A1 (l:List Int)(left:Int->Bool)(L:List Int):Prop where
 nd:L.Nodup
 mem: ∀x,x∈L↔x∈l/\left x=false
theorem A1.start {l:List Int}{left:Int->Bool}(h: ∀x,left x=decide (x∈l)):A1 l left []:=
 ⟨List.nodup_nil,λx=>⟨λj=>by simp at j,λj=>by
  obtain⟨h1,h2⟩:=j;rw [h,iP h1]at h2;simp at h2⟩⟩
theorem A1.put {l:List Int}{left:Int->Bool}{L:List Int}(h:A1 l left L){x:Int}(K:x∈l)(G:left x=true):A1 l (λy=>left y&& !(y==x)) (L++ [x]):=
 ⟨by
  rw [List.nodup_append];refine⟨h.nd,US,λa z b j=> ?_⟩;rw [TD]at j;subst j;intro e;subst e;have:=((h.mem a).1 z).2;rw [G]at this;simp at this,
  λy=>by
   rw [Ti,TD,h.mem y];by_cases u:y=x
   ·subst u
    exact⟨λ_=>⟨K,US⟩,λ_=> .inr rfl⟩
   ·simp [u]⟩
theorem CF: ∀ {l m:List Int},l.Pairwise (· < ·)->m.Pairwise (· < ·)->(∀x,x∈l↔x∈m)->l=m
 | [],[],_,_,_=>rfl
 | [],b::m,_,_,h=>by have:=(h b).2 US;simp at this
 |a::l,[],_,_,h=>by have:=(h a).1 US;simp at this
 |a::l,b::m,G,U,h=>by
  obtain⟨u,K⟩:=TS.1 G;obtain⟨y,V⟩:=TS.1 U;have z:a=b:=by
   have h1:=(h a).1 US;have h2:=(h b).2 US;rcases TE.1 h1 with e|h1
   ·exact e
   ·rcases TE.1 h2 with e|h2
    ·exact e.symm
    ·have:=u b h2
     have:=y a h1;omega
  subst z;rw [CF K V λx=> ?_];constructor
  ·intro j
   rcases TE.1 ((h x).1 (Uj _ j))with e|h1
   ·subst e;have:=u x j;omega
   ·exact h1
  ·intro j
   rcases TE.1 ((h x).2 (Uj _ j))with e|h1
   ·subst e;have:=y x j;omega
   ·exact h1
theorem A1.done {l:List Int}{left:Int->Bool}{L j:List Int}(h:A1 l left L)(y: ∀x,left x=false)(K:l.Pairwise (· < ·))(u:j.Perm L)(G:j.Pairwise (· <= ·)):j=l:=by
 have z:j.Nodup:=u.nodup_iff.2 h.nd;refine CF ((G.and z).imp fun⟨h1,h2⟩=>UN) K λx=> ?_;rw [u.mem_iff,h.mem x];exact⟨λh=>h.1,λh=>⟨h,y x⟩⟩
theorem E7 (s b:Nat)(w:World)(l:List Int)(h:qw s b w l)(bK:l.length<=100000):
 Calls prog 95 #[.pointer (some ⟨s,0,none⟩)] w λe w'=> ∃(a:UP) (cap:Nat),e= .returned (.slice a l.length cap)/\Own ib w.heap.size 24 (λk=>w.heap.size<=k) w' (.slice a l.length cap) l/\BW w w':=by
 obtain⟨HC,ar,bq⟩:=kT h.cell h.set.map h.set.up;have aI:Hi (b<w.heap.size/\s<w.heap.size):=⟨h.set.map.lt,h.lt⟩;have ai:=x5 l;have aU:Hi (∀x,(getM (p7 l) x).isSome=decide (x∈l)):=Ad l;have aL:Hi (∀x v,getM (p7 l) x=some v->x∈l):=λx v bB=>by have:=Ad l x;rw [bB]at this;simpa using this
 obtain⟨ab,a4⟩:=iF (p7 l);rw [a4]at ar aU aL ai;have aP:=Hd ai;have hlen':=ar.o.len (t:=164) (e:=4) underlying164;rw [ai]at hlen';clear h a4 ai;go_in;obtain⟨aG,aH⟩:=a' HC.o;go_wp2_with (at_make;go_loud (refine m5 rfl _ _ rfl iX (n:=0) (m:=l.length) rfl rfl ?_ ?_ ?_ ?_ ?_ ?_))
 ·rfl
 ·rfl
 ·omega
 ·omega
 ·unfold maxLen;omega
 intro cur aX Y aY hb1 bA;have az:Own ib w.heap.size 24 (λx=>False\/w.heap.size<=x) Y (.slice (some ⟨w.heap.size,0,none⟩) 0 l.length) []:=nr (cur:=cur) aY aX rfl (λx bE=>by simp at bE) (iy _) (by unfold maxLen;omega) (g9 _);obtain⟨v0,a7⟩:=iF (Value.slice (some ⟨w.heap.size,0,none⟩) 0 l.length);rw [a7]at az⊢;have av:Hi (Own ib w.heap.size 24 (λk=>w.heap.size<=k) Y v0 []):=Own.mono az λk _ h=>h.resolve_left id;obtain⟨al,aO,aK⟩:=kT hb1 (ar.o.c' hb1) (b' hb1 HC.o);clear az aY bA aX a7 aG aH hb1 hlen';obtain⟨aG,aH⟩:=a' aK.o
 go_wp2_with (first
  |(at_range;refine qy rfl _ rfl _ 164 rfl 4 underlying164 b ab rfl aO.o ?_;intro w1 a5 hb1 bx)
  |go_in)
 go_frame;obtain⟨z,aQ,aJ⟩:=kT a5 (av.o.c' hb1) (d' al.o hb1);have V:Hi (w.heap.size<=Y.heap.size):=al.o.size;have ax:Hi (∀k,v0.ownBlock=some k->k<Y.heap.size):=λk j=>(av.o.lt j).1;obtain⟨R,aW⟩:=iF (Y.heap.size);rw [aW]at z V ax⊢;have bp:Hi (R<w1.heap.size):=z.o.lt.2.1;clear a5 hb1 bx av aO aK al aW aG aH;go_loopw [3] (λa8 wr=> ∃(L:List Int) (left:Int->Bool) (ag:Nat),Hi (nR wr b R ab left ag)/\Hi (A1 l left L)/\Hi (Own ib w.heap.size 24 (λk=>w.heap.size<=k) wr a8 L)/\Hi (∀k,a8.ownBlock=some k->k≠R)/\L.length+ag<=ab.length/\Hi (BW w wr)) (λ_ wr=>wr.rangeLeft b R)
 case atStart=>exact⟨[],_,_,z,A1.start aU.o,aQ,λk j=>by have:=ax.o k j;omega,US,aJ⟩
 case round=>
  clear z aQ aJ ax bp;obtain⟨L,left,ag,z,aq,G,au,bI,ao⟩:=hrel;obtain⟨wq,bC⟩: ∃x,x=wr:=⟨_,rfl⟩;subst bC;obtain⟨ad,ae,rfl, -, -⟩:=iW G.o
  go_wp2_with (first
   |(at_next;refine rK rfl _ rfl _ rfl b R ab left ag rfl z.o ?_ ?_)
   |go_in)
  ·intro bw a1
   have bg:=Hd a1;have bk:L.length<=1000000:=(by have:=aP.o;omega);clear bw a1;go_wp2_with fail;refine(GG w.heap.size _ wq ad ae L bk G.o).mono ?_;rintro e bG⟨rfl,bH,hperm,hsort,aj,a0⟩;have aE:=hperm.length_eq;have aV:=aq.o.done bg.o bq.o hperm hsort;rw [aV]at aE aj;rw [<-aE]at aj⊢;have bn:=Hd aj;have bb:Hi (BW w bG):=Kept.behind ao.o a0 (iu V.o (Nat.le_of_lt (z.o.lt.2.1))) λk j h=>by
    have:=(G.o.lt h).2.1;omega
   clear hperm hsort aj a0 aE aV;go_wp2;go_ret;exact⟨ad,ae,rfl,bn.o,bb.o⟩
  ·intro x bt w2 br bD a3 aZ a6 hlt aC bz bJ
   have bF:=aL.o x bt aZ;have U:=Hd a6;have aw:Hi (Own ib w.heap.size 24 (λk=>w.heap.size<=k) w2 (.slice ad L.length ae) L):=(G.o.tight.keep (aC.mono λk _ j=>au.o k j)).mono λk _ j=>(G.o.lt j).2.1;have ap:Hi (BW w w2):=Kept.behind ao.o aC (iu V.o (Nat.le_of_lt (z.o.lt.2.1))) λk j=>(by show k≠R;have:=V.o;omega);have aM:=Hd (aq.o.put bF a3);have bi:Hi (w2.rangeLeft b R<wq.rangeLeft b R):=Hd (by rw [U.o.left,z.o.left];exact hlt);have K:Hi (R<w2.heap.size/\w.heap.size<=w2.heap.size):=⟨U.o.lt.2.1,ap.o.size⟩;have be:Hi (b≠R/\b<w.heap.size):=⟨by have:=aI.o.1;have:=V.o;omega,aI.o.1⟩;have aN:Hi (L.length<=100000):=Hd (by have:=aP.o;omega);obtain⟨ay,ah⟩:=iF (L++ [x]);have bh:=Hd ah;have bL:ay.length=L.length+1:=(by rw [<-ah];simp);rw [ah]at aM;have hlt2:=hlt;clear ah a6 aC bz aZ a3 G ao z aq;go_wp2_with (at_builtin;refine iC (r:=ib) (base:=w.heap.size) (v:= .slice ad L.length ae) (u:= .slice (some ⟨w2.heap.size,0,none⟩) 1 1) (S:=λ_=>False) rfl _ _ rfl iX rfl rfl (aw.o.c' (hd (g' _ _) (.cells #[x] 24))) (Src.one (r:=ib) (y:=x) ⟨rfl,bD⟩ (jx.new w2 [x] 24)) (λ_ _ h=>h.elim) (λ_ _ h=>h) (by have:=aN.o;unfold maxLen;simp;omega) (by have:=aN.o;simp;omega) (by rw [U4];have:=K.o.2;omega) ?_)
   intro a9 ak aF aD a2;rw [bh.o]at aF;have aA:=jc w2 (.cells #[x] 24);have af:Hi (∀k,(Value.slice ad L.length ae).ownBlock=some k->k≠R/\k≠b/\w.heap.size<=k):=λk j=>by
    have h1:=au.o k j;have h2:=(aw.o.lt j).2.1;have bv:=be.o.2;exact⟨h1,UN,h2⟩
   have aT:Hi (nR ak b R ab (λy=>left y&& !(y==x)) br):=(U.o.c' aA).keep aD (λe=>(af.o _ e).2.1 rfl) (λe=>(af.o _ e).1 rfl);have bo:Hi (Own ib w.heap.size 24 (λk=>w.heap.size<=k) ak a9 ay):=aF.mono λk _ j=>by
    rcases j with h1|h1
    ·exact h1
    ·have h2:=K.o.2
     omega
   have bm:Hi (∀k,a9.ownBlock=some k->k≠R):=λk j=>by
    rcases a2 with h1|h1
    ·rw [h1]at j;exact(af.o k j).1
    ·rw [h1]at j
     have h2:=jR j;have bv:=K.o.1;omega
   have bf:Hi (BW w ak):=Kept.behind (ap.o.trans (aA.mono K.o.2)) aD (by rw [U4];have:=K.o.2;omega) λk j e=>(by have:=(af.o k e).2.2;omega);have bj:Hi (ak.rangeLeft b R<wq.rangeLeft b R):=Hd (by rw [aT.o.left];have:=bi.o;rw [U.o.left]at this;exact this);clear aA aF aD a2 U aw ap au;go_wp2;go_roundw
   case rel=>exact⟨ay,_,_,aT,aM,bo,bm,UN,bf⟩
   case measure=>exact bj.o
def M1 (x:lK):List Int:=hN 8 x.id++hN 8 x.jD++hN 8 x.e'
def r9:List lK->List Int
 | []=> []
 |x::l=>M1 x++r9 l
theorem vL: ∀(l:List lK) (x:lK),r9 (l++ [x])=r9 l++M1 x
 | [],x=>by simp [r9]
 |y::l,x=>by simp [r9,vL l x]
def vm (win:Int)(s:j8):List Int:=hN 4 (s.past.length:Int)++lp s.leaves++lp s.marks++hN 4 (s.book.length:Int)++r9 s.book++hN 8 s.hidden++lp (k4 win s.roots)
theorem FR (N:Nat)(w:World)(a:UP)(cap:Nat)(xs:List Int)(h:hD.rel (λ_=>True) w [.slice a xs.length cap] xs)(y:xs.length<=N)(u:N<=100000000)(n:Int)(j:iZ n):
 Calls prog 46 #[.slice a xs.length cap,n] w (qU (xs++hN 8 n) (N+8) w):=
 (yq _ w a cap xs h n (iE j).1 (iE j).2 UN).mono λ_ _ h=>lP.xD h (by rw [U3,hA];omega)
theorem NR (N:Nat)(w:World)(a:UP)(cap:Nat)(xs:List Int)(h:hD.rel (λ_=>True) w [.slice a xs.length cap] xs)(y:xs.length<=N)(u:N<=100000000)(n:Nat)(j:n<=4294967295):
 Calls prog 43 #[.slice a xs.length cap,UZ n] w (qU (xs++hN 4 n) (N+4) w):=
 (Bq _ w a cap xs h n j UN).mono λ_ _ h=>lP.xD h (by rw [U3,hA];omega)
theorem Ip (N M:Nat)(S':UO)(w:World)(a:UP)(cap:Nat)(xs:List Int)(h:hD.rel (λ_=>True) w [.slice a xs.length cap] xs)(G:xs.length<=N)(y:N<=100000000)(la:UP)(lc:Nat)(l:List Int)(j:gZ.rel S' w [.slice la l.length lc] l)(z:l.length<=M)(u:M<=1000000):
 Calls prog 44 #[.slice a xs.length cap,.slice la l.length lc] w (qU (xs++lp l) (N+4+8*M) w):=
 (yr _ S' w a cap xs h la lc l j UN UN).mono λ_ _ h=>by
   rw [Tt]at h;exact lP.xD (ys:=xs++lp l) h (by simp only [U3,kC];omega)
theorem DE (p:Nat)(I:UO)(w:World)(r:i4)(s:j8)(v:p2)(h:jm p I w r s v)(G:s.marks.length<=100000):
 Calls prog 45 #[.pointer (some ⟨p,0,none⟩)] w λe w'=> ∃(a:UP) (cap:Nat),e= .returned (.slice a s.marks.length cap)/\gZ.rel (λ_=>True) w' [.slice a s.marks.length cap] s.marks/\BW w w':=by
 obtain⟨u,K⟩:=a' h.cell;simp only [iL]at u;have y:=Hd h.data.marks;clear h;go_in;go_wp2_with fail;refine(E7 v.sb v.mb w s.marks y.o G).mono ?_;rintro e w1⟨a,cap,rfl,j,hb1⟩;have z:=Hd j;clear j u K;go_wp2;go_ret;exact⟨a,cap,rfl,(g4 ib).mono z.o.slice λ_ _ _=>trivial,hb1⟩
theorem BH (p:Nat)(I:UO)(w:World)(r:i4)(s:j8)(v:p2)(h:jm p I w r s v)(bv:1<=r.win)(bw:r.win<=100)(aO:0<s.roots.length)(k1:s.past.length<=10000)(bM:s.leaves.length<=10000)(bz:s.marks.length<=100000)(bN:s.book.length<=100000)(bO:s.roots.length<=10001):
 Calls prog 11 #[.pointer (some ⟨p,0,none⟩)] w (qU (vm r.win s) 100000000 w):=by
 obtain⟨ta,tc,la,lc,sb,mb,ba,bc,ra,rc,pa,pc⟩:=v;obtain⟨g,aW⟩:=El h.data.roots aO;obtain⟨H,HC⟩:=ik h h.cell;have a9:Hi (ih.rel I w [.slice ba s.book.length bc] s.book):=h.data.book;obtain⟨bi,bh⟩:=ik h.data.leaves.slice h.data.hidden;have a8:Hi ((k4 r.win s.roots).length<=10001):=Hd (by unfold k4;rw [Ts];omega);clear h;go_in;obtain⟨j,u⟩:=a' HC.o;simp only [iL]at j;go_wp2_with fail;refine(NR 0 w none 0 [] g4.nil (g9 _) UN s.past.length UN).mono ?_;rintro e w1⟨bH,bk,c1,a1,l1,rfl,h1,hb1⟩;clear j u;obtain⟨j,u⟩:=a' (b' hb1 HC.o);simp only [iL]at j;go_wp2_with fail;refine(Ip 4 10000 _ w1 bk c1 bH h1 UN UN la lc s.leaves (gZ.c' bi.o hb1) UN UN).mono ?_;rintro e w2⟨bI,a2,c2,a3,l2,rfl,h2,hb2⟩;have ar:=d' hb1 hb2;clear j u;go_wp2_with fail;refine(DE p I w2 r s _ (H.o.c' ar) bz).mono ?_;rintro e bD⟨am,cm,rfl,aY,hb3⟩;have aX:=d' ar hb3;have aP:=hD.c' h2 hb3;clear h2 h1;go_wp2_with fail;refine(Ip 80008 100000 _ bD a2 c2 bI aP UN UN am cm s.marks aY UN UN).mono ?_;rintro e bE⟨bJ,bm,bp,a4,bP,rfl,aQ,aV⟩;have au:=d' aX aV;clear aP aY;obtain⟨j,u⟩:=a' (b' au HC.o);simp only [iL]at j;go_wp2_with fail;refine(NR 880012 bE bm bp bJ aQ UN UN s.book.length UN).mono ?_;rintro e bR⟨ad,bn,bq,a5,bQ,rfl,aT,hb5⟩;have av:=d' au hb5;clear aQ j u;obtain⟨j,u⟩:=a' (b' av HC.o);simp only [iL]at j;obtain⟨aI,aE⟩:=ik av aT;clear av au aX ar hb1 hb2 hb3 aV hb5 aT;go_wp2;go_loopw [3,36] (λbC az wr=> ∃(k:Nat) (ys:List Int) (a:UP) (c:Nat),k<=s.book.length/\az= UZ k/\bC= .slice a ys.length c/\Hi (ys=ad++r9 (s.book.take k))/\ys.length<=880016+24*k/\Hi (hD.rel (λ_=>True) wr [.slice a ys.length c] ys)/\Hi (BW w wr)) (λ_ az _=>s.book.length-(intOf az).toNat)
 case atStart=>exact⟨0,ad,bn,bq,iy _,rfl,rfl,by show _=_;simp [r9],UN,aE,aI⟩
 case round=>
  obtain⟨k,ys,a,c,bL,rfl,rfl,ay,bx,ab,G⟩:=hrel;clear j u aI aE;by_cases hlt:k<s.book.length
  ·obtain⟨b,off,rfl,bt, -,ax,d0,d1,aN⟩:=o6 ((ih).c' a9.o G.o) k hlt
   have aL:Hi (r9 (s.book.take (k+1))=r9 (s.book.take k)++M1 s.book[k]):=Hd (by rw [z4 hlt,vL]);obtain⟨x,aZ⟩:=iF (s.book[k]);rw [aZ]at ax d0 d1 aN aL;clear aZ bt;have aj:=Hd ax;have aq:=jc wr (.cells #[x.id,x.jD,x.e'] 115);obtain⟨ag,bb,aM⟩:=kT (gY wr (.cells #[x.id,x.jD,x.e'] 115)) (d' G.o aq) (hD.c' ab.o aq);clear aq ab G ax;go_wp2_with fail;generalize wr.alloc (.cells #[x.id,x.jD,x.e'] 115)=bG at*;clear d0 d1 aN;refine(FR (880016+24*k) bG a c ys aM.o bx UN x.id aj.o.id).mono ?_;rintro e aA⟨aD,ak,ao,ae,a0,rfl,K,z⟩;obtain⟨j,u⟩:=a' (b' z ag.o);go_wp2_with fail;refine(FR (880016+24*k+8) aA ak ao aD K a0 UN x.jD aj.o.jD).mono ?_;rintro e aC⟨bK,bo,br,a6,bA,rfl,aU,y⟩;have aw:=d' z y;clear j u;obtain⟨j,u⟩:=a' (b' aw ag.o);go_wp2_with fail;refine(FR (880016+24*k+16) aC bo br bK aU bA UN x.e' aj.o.e').mono ?_;rintro e bF⟨Y,al,ap,af,bB,rfl,U,V⟩;have bf:Hi (Y=ad++r9 (s.book.take (k+1))):=Hd (by rw [af.o,a6.o,ae.o,ay.o,aL.o];simp [M1]);obtain⟨ai,a7⟩:=ik (d' bb.o (d' aw V)) U;clear j u K aU U z y V aw aM ag;go_wp2;go_roundw
   case rel=>exact⟨k+1,Y,al,ap,UN,by go_num,rfl,bf,UN,a7,ai⟩
   case measure=>exact UY
  ·obtain rfl:k=s.book.length:=UN
   have be:Hi (ys=ad++r9 s.book):=Hd (by rw [ay.o,Sw]);obtain⟨j,u⟩:=a' (b' G.o HC.o);simp only [iL]at j;go_wp2_with fail;refine(FR (880016+24*100000) wr a c ys ab.o UN UN s.hidden bh.o).mono ?_;rintro e aA⟨aD,ak,ao,ae,a0,rfl,K,z⟩;have ah:=Hd (d' G.o z);obtain⟨aK,aF⟩:=ik (H.o.c' ah.o) K;clear j u K z ab G ay;go_wp2_with fail;refine UR (wQ p I aA r s _ aK.o bv bw aO UN g aW) λaC y=> ?_;have aH:=Hd (Dc (win:=r.win) (g:=g) (rc:=rc) (by rw [<-aW];exact gZ.mono (gZ.c' aK.o.data.roots.slice y) λ_ _ _=>trivial));obtain⟨aG,aJ⟩:=ik (hD.c' aF.o y) (d' ah.o y);clear y aF ah;go_wp2_with fail;refine(Ip 3280024 10001 _ aC ak ao aD aG.o UN UN _ _ (k4 r.win s.roots) aH.o a8.o UN).mono ?_;rintro e bF⟨Y,al,ap,af,bB,rfl,U,V⟩;have bg:Hi (Y=vm r.win s):=by
    show _=_;rw [af.o,ae.o,be.o,a5.o,a4.o,a3.o,a1.o];simp [vm]
   obtain⟨bj,ai⟩:=ik U (d' aJ.o V);clear U V aJ aG aH;go_wp2;go_ret;exact⟨Y,al,ap,bg,UN,rfl,bj.o,ai.o⟩
theorem yQ (p:Nat)(I:UO)(w:World)(r:i4)(hr:oo r)(bs:List hV)(z:j6 r bs)(U:bs.length<=200)(v:p2)(h:jm p I w r (jl r bs) v):
 Calls prog 11 #[.pointer (some ⟨p,0,none⟩)] w (qU (vm r.win (jl r bs)) 100000000 w):=by
 have j:=mC hr _ bs rfl z;have h1:=j.ok.roots;have h2:=j.past;have G:=j.ok.marks;have K:=j.ok.book;have y:(jl r bs).leaves.length<=10000:=by
  have h1:=j.ok.count;have h2:=j.ok.tree.c1;obtain⟨-, -,u⟩:=pL ⟨r.depth.toNat,by have:=j.ok.tree.d1;omega⟩;simp only at u;omega
 exact BH p I w r (jl r bs) v h hr.w0 hr.w1 UN UN y UN UN UN
end Go.Proofs.YtjdiofjjoefnhaaGreatDoor
