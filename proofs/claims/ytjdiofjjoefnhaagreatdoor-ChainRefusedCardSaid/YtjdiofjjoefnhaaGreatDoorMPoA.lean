/- The state of a chain of the program: plain values, representation in memory. -/
import Derived.Test.YtjdiofjjoefnhaaGreatDoorMLg
set_option maxRecDepth 100000
set_option maxHeartbeats 4000000
namespace Go.Proofs.YtjdiofjjoefnhaaGreatDoor
open Go.ChangeShapes Go.WideShapes Go.ChangeAt Go.RowKit Go.Sort
structure i4 where
 mode:Int
 depth:Int
 bl:Int
 bu:Int
 qu:Int
 iz:Int
 win:Int
 fin:Int
 work:Int
abbrev p6 (r:i4):Array Value:= #[UZ r.mode,UZ r.depth,UZ r.bl,UZ r.bu,UZ r.qu,U2 r.iz,UZ r.win,UZ r.fin,U2 r.work]
abbrev UU (r:i4):Array Value:= #[.bool false,U0,I0,S0,S0,S0,UZ r.mode,UZ r.depth,UZ r.bl,UZ r.bu,UZ r.qu,U2 r.iz,UZ r.win,UZ r.fin,U2 r.work,S0,UZ (-1),UZ (-1)]
abbrev UW (r:i4):List Value:= [UZ r.mode,UZ r.depth,UZ r.bl,UZ r.bu,UZ r.qu,U2 r.iz,UZ r.win,UZ r.fin,U2 r.work]
abbrev Me:kS Int:=j9 .i64
structure sl where
 tree:xg
 leaves:Int
 marks:List Int
 book:List lK
 hidden:Int
def sh:kS sl:=zj (λb=>(b.tree.depth,b.tree.count,b.tree.left,b.leaves,b.marks,b.book,b.hidden)) (jB Me (jB Me (jB gZ (jB Me (jB gZ (jB ih ib))))))
theorem sh.n:sh.n=7:=rfl
structure j8 where
 tree:xg
 leaves:List Int
 marks:List Int
 book:List lK
 hidden:Int
 roots:List Int
 past:List sl
structure p2 where
 ta:Option Addr
 tc:Nat
 la:Option Addr
 lc:Nat
 sb:Nat
 mb:Nat
 ba:Option Addr
 bc:Nat
 ra:Option Addr
 rc:Nat
 pa:Option Addr
 pc:Nat
structure sw (I:UO)(w:World)(b:sl)(ta ma ba:UP)(tc mc bc:Nat):Prop where
 depth:zf b.tree.depth
 count:zf b.tree.count
 tree:gZ.rel I w [.slice ta b.tree.left.length tc] b.tree.left
 leaves:zf b.leaves
 marks:gZ.rel I w [.slice ma b.marks.length mc] b.marks
 book:ih.rel I w [.slice ba b.book.length bc] b.book
 hidden:iZ b.hidden
theorem sh.inv {S:UO}{w:World}{cs:List Value}{b:sl}(h:sh.rel S w cs b):
 ∃ta ma ba tc mc bc,cs= [UZ b.tree.depth,UZ b.tree.count,.slice ta b.tree.left.length tc,UZ b.leaves,.slice ma b.marks.length mc,.slice ba b.book.length bc,U2 b.hidden]/\sw S w b ta ma ba tc mc bc:=by
 obtain⟨_,_,rfl,⟨rfl,w1⟩,_,_,rfl,⟨rfl,w2⟩,_,_,rfl,j,_,_,rfl,⟨rfl,ab⟩,_,_,rfl,u,_,_,rfl,y,⟨rfl,ad⟩⟩:=h;obtain⟨z,U,rfl⟩:=nW j;obtain⟨G,V,rfl⟩:=nW u;obtain⟨K,Y,rfl⟩:=nW y;exact⟨z,G,K,U,V,Y,rfl,w1,w2,j,ab,u,y,ad⟩
theorem sh.mk {S:UO}{w:World}{b:sl}{ta ma ba:UP}{tc mc bc:Nat}(h:sw S w b ta ma ba tc mc bc):
 sh.rel S w [UZ b.tree.depth,UZ b.tree.count,.slice ta b.tree.left.length tc,UZ b.leaves,.slice ma b.marks.length mc,.slice ba b.book.length bc,b.hidden] b:=
 ⟨[_],_,rfl,⟨rfl,h.depth⟩,[_],_,rfl,⟨rfl,h.count⟩,[_],_,rfl,h.tree,[_],_,rfl,⟨rfl,h.leaves⟩,[_],_,rfl,h.marks,[_],_,rfl,h.book,⟨rfl,h.hidden⟩⟩
theorem sw.keep {S:UO}{w w':World}{b:sl}{ta ma ba:UP}{tc mc bc:Nat}(h:sw S w b ta ma ba tc mc bc)(j:Kept S w w'):sw S w' b ta ma ba tc mc bc:=
 ⟨h.depth,h.count,gZ.keep h.tree j,h.leaves,gZ.keep h.marks j,(ih).keep h.book j,h.hidden⟩
theorem sw.c' {S:UO}{w w':World}{b:sl}{ta ma ba:UP}{tc mc bc:Nat}(h:sw S w b ta ma ba tc mc bc)(j:BW w w'):sw S w' b ta ma ba tc mc bc:=h.keep (Kept.of_below j)
theorem sw.mono {S S':UO}{w:World}{b:sl}{ta ma ba:UP}{tc mc bc:Nat}(h:sw S w b ta ma ba tc mc bc)(j: ∀k,k<w.heap.size->S k->S' k):sw S' w b ta ma ba tc mc bc:=
 ⟨h.depth,h.count,gZ.mono h.tree j,h.leaves,gZ.mono h.marks j,(ih).mono h.book j,h.hidden⟩
abbrev iT (a:UP):Option Nat:=a.map (·.block)
theorem lM (a:UP)(l c:Nat):(Value.slice a l c).ownBlock=iT a:=by cases a<;>rfl
def iw (p:Nat)(v:p2)(k:Nat):Prop:=k=p\/k=v.sb\/k=v.mb\/iT v.la=some k\/iT v.ra=some k\/iT v.pa=some k
abbrev iL (r:i4)(s:j8)(v:p2):Array Value:=
 #[UZ r.mode,UZ r.depth,UZ r.bl,UZ r.bu,UZ r.qu,U2 r.iz,UZ r.win,UZ r.fin,U2 r.work,
  UZ s.tree.depth,UZ s.tree.count,.slice v.ta s.tree.left.length v.tc,.slice v.la s.leaves.length v.lc,.pointer (some ⟨v.sb,0,none⟩),.slice v.ba s.book.length v.bc,U2 s.hidden,.slice v.ra s.roots.length v.rc,.slice v.pa s.past.length v.pc]
structure BS (I:UO)(w:World)(s:j8)(v:p2):Prop where
 tree:gZ.rel I w [.slice v.ta s.tree.left.length v.tc] s.tree.left
 leaves:Own ib 0 24 (λk=>iT v.la=some k) w (.slice v.la s.leaves.length v.lc) s.leaves
 marks:qw v.sb v.mb w s.marks
 book:ih.rel I w [.slice v.ba s.book.length v.bc] s.book
 hidden:iZ s.hidden
 roots:Own ib 0 24 (λk=>iT v.ra=some k) w (.slice v.ra s.roots.length v.rc) s.roots
 past:Own sh 0 145 (λk=>I k\/iT v.pa=some k) w (.slice v.pa s.past.length v.pc) s.past
structure jm (p:Nat)(I:UO)(w:World)(r:i4)(s:j8)(v:p2):Prop where
 cell:w.heap[p]? =some (.cells (iL r s v) 111 (0,0))
 data:BS I w s v
 apart: ∀k,iT v.la=some k->iT v.ra=some k->False
 free: ∀k,iw p v k-> ¬I k
 lt: ∀k,I k->k<w.heap.size
theorem kU {α:Type}{r:kS α}{base:Nat}{e:TypeId}{F:UO}{w:World}{a:UP}{l c k:Nat}{xs:List α}(h:Own r base e F w (.slice a l c) xs)(j:iT a=some k): ∃cur,w.heap[k]? =some (.cells cur e (0,0)):=by
 obtain⟨S,css,V,ad,ab,hr,y⟩:=h;rcases y.2 with⟨h1, -⟩|⟨g,z,cur,h1,Y,u,h2,G,K,U⟩
 ·simp only [mJ]at h1;obtain⟨rfl, -, -⟩:=h1;simp at j
 ·simp only [mJ]at h1;obtain⟨rfl, -, -⟩:=h1
  simp at j;subst j;exact⟨cur,u⟩
theorem iW {α:Type}{r:kS α}{base:Nat}{e:TypeId}{F:UO}{w:World}{u:Value}{xs:List α}(h:Own r base e F w u xs): ∃a c,u= .slice a xs.length c/\xs.length<=c/\c<=maxLen:=by
 obtain⟨a,c,h1,h2,j⟩:=g4.form h.slice;exact⟨a,c,h1,h2,j⟩
section
variable {p:Nat} {I:UO} {w w':World} {r:i4} {s:j8} {v:p2}
theorem BS.keep (h:BS I w s v){S:UO}(j:Kept S w w')(u: ∀k,I k->S k)(K:S v.sb)(z:S v.mb)(y: ∀k,iT v.la=some k->S k)(hr: ∀k,iT v.ra=some k->S k)(G: ∀k,iT v.pa=some k->S k):BS I w' s v:=
 ⟨gZ.keep h.tree (j.mono λk _ h=>u k h),h.leaves.keep (j.mono λk _ h=>y k h),h.marks.keep j K z,(ih).keep h.book (j.mono λk _ h=>u k h),h.hidden,h.roots.keep (j.mono λk _ h=>hr k h),
  h.past.keep (j.mono λk _ h=>h.elim (u k) (G k))⟩
theorem jm.keep (h:jm p I w r s v){S:UO}(u:Kept S w w')(y: ∀k,I k->S k)(j: ∀k,iw p v k->S k):jm p I w' r s v:=
 ⟨(u.block p (ii h.cell) (j p (.inl rfl))).trans h.cell,
  h.data.keep u y (j _ (.inr (.inl rfl))) (j _ (.inr (.inr (.inl rfl)))) (λk e=>j k (.inr (.inr (.inr (.inl e))))) (λk e=>j k (.inr (.inr (.inr (.inr (.inl e)))))) (λk e=>j k (.inr (.inr (.inr (.inr (.inr e)))))),
  h.apart,h.free,λk hi=>jg (h.lt k hi) u.size⟩
theorem jm.ki (h:jm p I w r s v)(k:Nat)(u:iw p v k):k<w.heap.size:=by
 rcases u with rfl|rfl|rfl|e|e|e
 ·exact ii h.cell
 ·exact h.data.marks.lt
 ·exact h.data.marks.set.map.lt
 ·obtain⟨cur,j⟩:=kU h.data.leaves e;exact ii j
 ·obtain⟨cur,j⟩:=kU h.data.roots e;exact ii j
 ·obtain⟨cur,j⟩:=kU h.data.past e;exact ii j
theorem jm.c' (h:jm p I w r s v)(j:BW w w'):jm p I w' r s v:=
 h.keep (Kept.of_below (S:=λk=>k<w.heap.size) j) h.lt h.ki
theorem jm.FJ (h:jm p I w r s v):p≠v.sb:=by
 intro e;have h1:=h.cell;rw [e,h.data.marks.cell]at h1;simp at h1
theorem jm.us (h:jm p I w r s v):p≠v.mb:=by
 intro e;obtain⟨es,clock,j,_⟩:=h.data.marks.set.map;rw [<-e,h.cell]at j;simp at j
theorem jm.zX (h:jm p I w r s v):iT v.la≠some p:=by
 intro e;obtain⟨cur,j⟩:=kU h.data.leaves e;rw [h.cell]at j;simp at j
theorem jm.zW (h:jm p I w r s v):iT v.ra≠some p:=by
 intro e;obtain⟨cur,j⟩:=kU h.data.roots e;rw [h.cell]at j;simp at j
theorem jm.vY (h:jm p I w r s v):iT v.pa≠some p:=by
 intro e;obtain⟨cur,j⟩:=kU h.data.past e;rw [h.cell]at j;simp at j
theorem BS.xN (h:BS I w s v):iT v.la≠some v.sb/\iT v.ra≠some v.sb/\iT v.pa≠some v.sb:=by
 refine⟨λe=> ?_,λe=> ?_,λe=> ?_⟩
 ·obtain⟨cur,j⟩:=kU h.leaves e;rw [h.marks.cell]at j;simp at j
 ·obtain⟨cur,j⟩:=kU h.roots e;rw [h.marks.cell]at j;simp at j
 ·obtain⟨cur,j⟩:=kU h.past e;rw [h.marks.cell]at j;simp at j
theorem BS.vt (h:BS I w s v):iT v.la≠some v.mb/\iT v.ra≠some v.mb/\iT v.pa≠some v.mb:=by
 obtain⟨es,clock,u,_⟩:=h.marks.set.map;refine⟨λe=> ?_,λe=> ?_,λe=> ?_⟩
 ·obtain⟨cur,j⟩:=kU h.leaves e;rw [u]at j;simp at j
 ·obtain⟨cur,j⟩:=kU h.roots e;rw [u]at j;simp at j
 ·obtain⟨cur,j⟩:=kU h.past e;rw [u]at j;simp at j
theorem BS.sz (h:BS I w s v): ∀k,iT v.pa=some k->iT v.la≠some k/\iT v.ra≠some k:=by
 intro k e;obtain⟨cur,u⟩:=kU h.past e;refine⟨λe=> ?_,λe=> ?_⟩
 ·obtain⟨y,j⟩:=kU h.leaves e;rw [u]at j;simp at j
 ·obtain⟨y,j⟩:=kU h.roots e;rw [u]at j;simp at j
end
theorem vC: ∀(l:List lK) (id:Int),∀y∈l.take (lG l id),y.id<id
 | [],_,y,h=>by simp at h
 |x::l,id,y,h=>by
  unfold lG at h;split at h
  ·rename_i j
   rw [Tr,TE]at h;rcases h with rfl|h
   ·exact j
   ·exact vC l id y h
  ·simp at h
theorem Aj: ∀(l:List lK) (id:Int),vd l-> ∀y∈l.drop (if j7 l id=true then lG l id+1 else lG l id),id<y.id
 | [],_,_,y,h=>by simp [lG,j7]at h
 |x::l,id,K,y,h=>by
  obtain⟨h1,h2⟩:=TS.1 K;by_cases G:x.id<id
  ·have j:lG (x::l) id=lG l id+1:=g7 G
   have z:j7 (x::l) id=j7 l id:=(by unfold j7;rw [j,List.getElem?_cons_succ]);rw [j,z]at h;refine Aj l id h2 y ?_;split at h
   ·rw [Ty]at h;rename_i u;rw [g7 u];exact h
   ·rw [Ty]at h;rename_i u;rw [g3 u];exact h
  ·have j:lG (x::l) id=0:=g3 G
   have z:j7 (x::l) id=(x.id==id):=(by unfold j7;rw [j];rfl);rw [j,z]at h;split at h
   ·rw [Ty,Tg]at h
    have:=h1 y h;omega
   ·rename_i u
    rw [iO]at u;rw [Tg,TE]at h;rcases h with rfl|h
    ·omega
    ·have:=h1 y h;omega
theorem F0 {l:List lK}(h:vd l)(x:lK):vd (lS l x):=by
 unfold lS;refine UF.2 ⟨UF.2 ⟨h.sublist (List.take_sublist _ _),?_,?_⟩,h.sublist (List.drop_sublist _ _),?_⟩
 ·split
  ·exact List.pairwise_singleton _ _
  ·exact T'
 ·intro a j b u
  split at u
  ·rw [TD]at u;subst u;exact vC l _ a j
  ·simp at u
 ·intro a j b u
  have h2:=Aj l x.id h b u;rcases Ti.1 j with j|j
  ·have:=vC l x.id a j;omega
  ·split at j
   ·rw [TD]at j;subst j;exact h2
   ·simp at j
theorem Cz (l:List lK)(x:lK):(lS l x).length<=l.length+1:=by
 unfold lS;have h:=Bc l x.id;rw [U3,U3,Tq,Ts];split<;>split<;>simp<;>omega
theorem vH {l:List lK}(h:vd l)(id j no:Int):vd (lx l id j no):=by
 unfold lx;split
 ·exact F0 h _
 ·exact T'
theorem ub (l:List lK)(id j no:Int):(lx l id j no).length<=l.length+1:=by
 unfold lx;split
 ·exact Cz l _
 ·simp
theorem uc {l:List lK}(h:vd l)(id j:Int):vd (jH l id j):=by
 unfold jH;split
 ·exact T'
 ·exact F0 h _
theorem s6 (l:List lK)(id j:Int):(jH l id j).length<=l.length+1:=by
 unfold jH;split
 ·simp
 ·exact Cz l _
abbrev jh (x:Int):Int:=IntKind.u64.wrap x
def k4 (win:Int)(roots:List Int):List Int:=roots.drop (roots.length-win.toNat)
def h7 (r:i4)(s:j8)(t:jO):Int:=
 if hF t=0 then
  if t.exp<s.past.length+1 then 14
  else if hasB (k4 r.win s.roots) t.g5=true then
   if (t.marks.any λx=>decide (x∈s.marks))=true then 12
   else if 0<t.iK/\jM s.book t.acc t.iK t.e'≠0 then jM s.book t.acc t.iK t.e'
   else if jh (s.hidden+t.iK)<jh (t.wd+t.jn)then 13
   else if (2:Int)^r.depth.toNat<s.leaves.length+t.outs.length then 16
   else 0
  else 11
 else hF t
def nT (f:xg)(cs:List Int):xg:=cs.foldl uj f
abbrev jb (t:jO):List Int:=t.outs.map (·.g6)
def book1 (s:j8)(t:jO):List lK:=if 0<t.iK then lx s.book t.acc t.iK t.e' else s.book
def jA (s:j8)(t:jO):Int:=if 0<t.wd then kV (book1 s t) t.acc t.wd else 0
def kD (s:j8)(t:jO):j8:=
 ⟨nT s.tree (jb t),s.leaves++jb t,mQ s.marks t.marks,
  if 0<t.wd/\jA s t=0 then jH (book1 s t) t.acc t.wd else book1 s t,
  if jA s t=0 then jh (jh (jh (s.hidden+t.iK)-t.wd)-t.jn)else s.hidden,s.roots,s.past⟩
def mF (r:i4):j8->List jO->Int
 |_,[]=>0
 |s,t::l=>if h7 r s t=0 then (if jA s t=0 then mF r (kD s t) l else jA s t)else h7 r s t
def om:j8->List jO->j8
 |s,[]=>s
 |s,t::l=>om (kD s t) l
def nD:Int->List jO->Int
 |f,[]=>f
 |f,t::l=>nD (jh (f+t.jn)) l
def mZ (l:List jO):List Int:=l.flatMap (·.marks)
def mI (r:i4)(s:j8)(b:hV):Int:=if mF r s b.hQ=0 then kV (om s b.hQ).book b.hJ (jh (r.iz+nD 0 b.hQ))else mF r s b.hQ
def ju (r:i4)(s:j8)(b:hV):j8:= { om s b.hQ with book:=jH (om s b.hQ).book b.hJ (jh (r.iz+nD 0 b.hQ)) }
def pG (s:j8)(b:hV):sl:=⟨s.tree,s.leaves.length,mZ b.hQ,s.book,s.hidden⟩
def jF (r:i4)(s:j8)(b:hV):Int:=
 if b.f'=s.past.length+1 then (if b.hJ<18446744069414584321 then mI r s b else 1)else 18
def lX (r:i4)(s:j8)(b:hV):j8:=
 { ju r s b with roots:=s.roots++ [mT (ju r s b).tree r.depth.toNat],past:=s.past++ [pG s b] }
def sg (r:i4):j8:=⟨mf r.depth.toNat,[],[],[],0,[mT (mf r.depth.toNat) r.depth.toNat],[]⟩
structure oo (r:i4):Prop where
 d0:1<=r.depth
 d1:r.depth<=12
 w0:1<=r.win
 w1:r.win<=100
 f0:1<=r.fin
 f1:r.fin<=1048576
 iz:r.iz<=4294967296
 SU:iZ r.iz
 k0:1<=r.work
 k1:r.work<=65536
structure nm (r:i4)(s:j8)(n:Nat):Prop where
 tree:tT s.tree r.depth.toNat
 count:s.tree.count=s.leaves.length
 leaves: ∀x∈s.leaves,0<=x/\x<18446744069414584321
 marks:s.marks.length<=n
 up:vd s.book
 book:s.book.length<=n
 hidden:iZ s.hidden
 roots:s.roots.length=s.past.length+1
structure Part (s0 s:j8)(m:List Int):Prop where
 leaves:s.leaves.take s0.leaves.length=s0.leaves
 marks:s.marks=mQ s0.marks m
 nodup:m.Nodup
 fresh: ∀x∈m,x∉s0.marks
 roots:s.roots=s0.roots
 past:s.past=s0.past
theorem Part.refl (s:j8):Part s s []:=⟨Sw,rfl,List.nodup_nil,US,rfl,rfl⟩
theorem JV (l m1 m2:List Int):mQ l (m1++m2)=mQ (mQ l m1) m2:=by unfold mQ;rw [Us]
theorem vF {l:List Int}{x:Int}: ∀n,n<=l.length->(mX l x n=true↔x∈l.take n)
 |0,_=>by simp [mX]
 |n+1,h=>by
  unfold mX;rw [Bool.or_eq_true,vF n UN,iO,getD_at l 0 n UN,z4 UN,Ti,TD]
theorem Jw (l:List Int)(x:Int):hasB l x=true↔x∈l:=by
 unfold hasB;rw [vF _ (g9 _),Sw]
theorem na {l:List Int}(h:k5 l=true):l.length<=4/\l.Nodup:=by
 unfold k5 at h;rw [kg,jk]at h;refine⟨h.1,TP.2 λi j hi u y=> ?_⟩;have h1:ut l j=true:=by
  rcases hm:ut l j with _|_
  ·rw [jp hm u]at h;simp at h
  ·rfl
 unfold ut at h1;rw [kg,Bool.not_eq_true']at h1;intro e;rw [getD_at l 0 j u]at h1;have:mX l l[j] j=true:=(vF j UN).2 (by rw [<-e];exact List.mem_take_iff_getElem.2 ⟨i,UN,rfl⟩);rw [this]at h1;simp at h1
theorem mv {t:jO}(h:hF t=0):k5 t.marks=true/\lL t.outs=true/\kK t=true:=by
 unfold hF at h;split at h
 ·rename_i j
  simp only [kg]at j;exact⟨j.1,j.2.1,j.2.2.1⟩
 ·simp at h
theorem pY {t:jO}(h:hF t=0): ∀o∈t.outs,o.g6<18446744069414584321:=by
 have h1:=(mv h).2.1;unfold lL at h1;rw [kg]at h1;intro o j;have h2:=TJ.1 h1.2 o j;unfold tA jC at h2;rw [kg,jk]at h2;exact h2.1
theorem DZ (f:xg)(cs:List Int)(k:Nat)(h:k<cs.length):nT f (cs.take (k+1))=uj (nT f (cs.take k)) cs[k]:=by
 unfold nT;rw [z4 h,Us];rfl
theorem vJ {D:Nat}: ∀(cs:List Int) (f:xg),tT f D->f.count+cs.length<=2^D->(∀x∈cs,0<=x/\x<18446744069414584321)->tT (nT f cs) D/\(nT f cs).count=f.count+cs.length
 | [],f,h,_,_=>⟨h,by simp [nT]⟩
 |x::cs,f,h,j,u=>by
  simp only [Tz]at j
  push_cast at j
  have h1:=Gr h UN x (u x US);have h2:=vJ cs (uj f x) h1 (by show f.count+1+_<=_;omega) λy hy=>u y (by simp [hy]);refine⟨h2.1,?_⟩;show(nT (uj f x) cs).count=_;rw [h2.2];show f.count+1+_=_;simp only [Tz];push_cast;omega
theorem sA (x:Int):iZ (jh x):=by
 have:jh x=x % 18446744073709551616:=jP x;rw [this];exact ir UN UN
theorem lQ {r:i4}{s:j8}{t:jO}(h:h7 r s t=0):
 hF t=0/\(∀x∈t.marks,x∉s.marks)/\(0<t.iK->jM s.book t.acc t.iK t.e'=0)/\(s.leaves.length:Int)+t.outs.length<=2^r.depth.toNat:=by
 unfold h7 at h;by_cases j:hF t=0
 ·rw [g7 j]at h
  split at h
  ·simp at h
  ·split at h
   ·split at h
    ·simp at h
    ·rename_i y
     split at h
     ·rename_i u;exact absurd h u.2
     ·rename_i u
      split at h
      ·simp at h
      ·split at h
       ·simp at h
       ·rename_i V
        refine⟨j,λx U K=>y (UA.2 ⟨x,U,by simpa using K⟩),λG=> ?_,UN⟩;exact Classical.byContradiction λz=>u ⟨G,z⟩
   ·simp at h
 ·rw [g3 j]at h;exact absurd h j
theorem zG {l m:List Int}(h: ∀x∈l,x∉m):(l.any λx=>decide (x∈m)==true)=false:=by
 rw [List.any_eq_false];intro x j;simp [h x j]
theorem H1 {l m:List Int}(h1: ∀x∈m,x∉l)(h2:m.Nodup):zl l m=0:=by
 unfold zl;rw [g3];rintro(h|h)
 ·rw [zG h1]at h;simp at h
 ·rw [(t5 m []).2 ⟨h2,US⟩]at h;simp at h
theorem I9 {l m:List Int}(y:l.Pairwise (· < ·))(h1: ∀x∈m,x∉l)(h2:m.Nodup):qt (mQ l m) m=l:=by
 have j:zi (mQ l m) m=0:=by
  unfold zi;rw [g3];rintro(h|h)
  ·obtain⟨x,z,u⟩:=UA.1 h
   have:x∈mQ l m:=(qY x m l).2 (.inl z);simp [this]at u
  ·rw [(t5 m []).2 ⟨h2,US⟩]at h;simp at h
 unfold qt;rw [g7 j,KE l m y h1]
theorem xm {r:i4}{s:j8}{n:Nat}(h:nm r s n){t:jO}(G:h7 r s t=0)(U: ∀o∈t.outs,0<=o.g6):nm r (kD s t) (n+4):=by
 obtain⟨z,Y,V,K⟩:=lQ G;have u: ∀x∈jb t,0<=x/\x<18446744069414584321:=by
  intro x j;obtain⟨o,y,rfl⟩:=List.mem_map.1 j;exact⟨U o y,pY z o y⟩
 have ht:=vJ (jb t) s.tree h.tree (by rw [h.count];simp only [jb,TC];exact K) u;have hb1:vd (book1 s t)/\(book1 s t).length<=n+1:=by
  unfold book1;split
  ·exact⟨vH h.up _ _ _,by have:=ub s.book t.acc t.iK t.e';have:=h.book;omega⟩
  ·exact⟨h.up,by have:=h.book;omega⟩
 refine⟨ht.1,?_,?_,?_,?_,?_,?_,h.roots⟩
 ·show(nT s.tree (jb t)).count=((s.leaves++jb t).length:Int)
  rw [ht.2,h.count,U3];push_cast;rfl
 ·intro x j
  rcases Ti.1 j with j|j
  ·exact h.leaves x j
  ·exact u x j
 ·show(mQ s.marks t.marks).length<=_
  have:=uI t.marks s.marks;have:=(na (mv z).1).1;have:=h.marks;omega
 ·show vd (if 0<t.wd/\jA s t=0 then jH (book1 s t) t.acc t.wd else book1 s t)
  split
  ·exact uc hb1.1 _ _
  ·exact hb1.1
 ·show(if 0<t.wd/\jA s t=0 then jH (book1 s t) t.acc t.wd else book1 s t).length<=_
  split
  ·have:=s6 (book1 s t) t.acc t.wd;omega
  ·omega
 ·show iZ (if jA s t=0 then jh (jh (jh (s.hidden+t.iK)-t.wd)-t.jn)else s.hidden)
  split
  ·exact sA _
  ·exact h.hidden
theorem Al {r:i4}{s0 s:j8}{m:List Int}(h:Part s0 s m){t:jO}(K:h7 r s t=0):Part s0 (kD s t) (m++t.marks):=by
 obtain⟨V,u,Y,ab⟩:=lQ K;have U:s0.leaves.length<=s.leaves.length:=by
  have:=congrArg List.length h.leaves;rw [Tq]at this;omega
 refine⟨?_,?_,?_,?_,h.roots,h.past⟩
 ·show(s.leaves++jb t).take _=_
  rw [Uq U,h.leaves]
 ·show mQ s.marks t.marks=_
  rw [JV,<-h.marks]
 ·refine List.nodup_append.2 ⟨h.nodup,(na (mv V).1).2,?_⟩
  intro a z b G e;subst e;refine u a G ?_;rw [h.marks,qY];exact .inl z
 ·intro x j y
  rcases Ti.1 j with j|j
  ·exact h.fresh x j y
  ·refine u x j ?_
   rw [h.marks,qY];exact .inr y
def Ca (s:j8)(b:sl):j8:=⟨b.tree,s.leaves.take b.leaves.toNat,qt s.marks b.marks,b.book,b.hidden,s.roots,s.past⟩
theorem Ah {s0 s:j8}{m:List Int}(h:Part s0 s m)(y:s0.marks.Pairwise (· < ·)):Ca s ⟨s0.tree,s0.leaves.length,m,s0.book,s0.hidden⟩=s0:=by
 have j:=h.leaves;have u:qt s.marks m=s0.marks:=by rw [h.marks];exact I9 y h.fresh h.nodup
 unfold Ca;simp only [jJ];rw [j,u,h.roots,h.past]
theorem Own.cut {α:Type}{r:kS α}{base:Nat}{e:TypeId}{F:UO}{w:World}{a:UP}{l c:Nat}{xs:List α}(h:Own r base e F w (.slice a l c) xs)(k:Nat)(K:k<=xs.length):Own r base e F w (.slice a k c) (xs.take k):=by
 obtain⟨S,css,ab,aj,y,hr,ai⟩:=h;have G:=qj y hr;refine⟨S,css.take k,ab,λj af=>aj j (by cases a<;>exact af),by simp [y],?_,?_⟩
 ·intro i cs x u z
  rw [T9]at u z;split at u
  ·rw [g7 (by assumption)]at z;exact hr i cs x u z
  ·simp at u
 ·have ag:(xs.take k).length=k:=by rw [Tq];omega
  rw [ag];refine⟨by rw [qp (λcs u=>G cs (TV u)),Tq,y,sq K],?_⟩;rcases ai.2 with⟨h1,ak⟩|⟨g,cap,cur,h1,ad,ae,h2,U,V,Y⟩
  ·simp only [mJ]at h1
   obtain⟨rfl,rfl,rfl⟩:=h1;have:k=0:=UN;exact .inl ⟨by rw [this],this⟩
  ·simp only [mJ]at h1
   obtain⟨rfl,rfl,rfl⟩:=h1;refine .inr ⟨g,c,cur,rfl,ad,ae,UN,U,V,?_⟩;have ah:k*r.n<=xs.length*r.n:=Ce _ K;rw [rQ css G,<-Y,T7,sq ah]
section
variable {p:Nat} {I:UO} {w w' w2:World} {r:i4} {s:j8} {v:p2}
theorem BS.mono {I':UO}(h:BS I w s v)(j: ∀k,I k->I' k):BS I' w s v:=
 ⟨gZ.mono h.tree λk _=>j k,h.leaves,h.marks,(ih).mono h.book λk _=>j k,h.hidden,h.roots,h.past.mono λk _ u=>u.elim (λh=> .inl (j k h)) .inr⟩
theorem jm.Ch (h:jm p I w r s v){k:Nat}(j:I k):k≠p:=λe=>h.free p (.inl rfl) (e▸j)
theorem jm.zY (h:jm p I w r s v)(j:Kept (λk=>k≠p) w w'):BS I w' s v:=
 h.data.keep j (λ_ j=>h.Ch j) (nB h.FJ) (nB h.us) (λ_ e j=>h.zX (j▸e)) (λ_ e j=>h.zW (j▸e)) (λ_ e j=>h.vY (j▸e))
theorem h9 (w:World)(p i:Nat)(u:Value):Kept (λk=>k≠p) w (w.setCell ⟨p,i,none⟩ u):=(Kept.refl _ _).setCell (λ_ h=>h rfl) _
theorem jm.Ae (h:jm p I w r s v)(x:Int)(u:iZ x):jm p I (w.setCell ⟨p,15,none⟩ (U2 x)) r { s with hidden:=x } v:=by
 have j:=h9 w p 15 (U2 x);have d:=h.zY j;exact⟨h6 h.cell,⟨d.tree,d.leaves,d.marks,d.book,u,d.roots,d.past⟩,h.apart,h.free,λk hi=>jg (h.lt k hi) j.size⟩
theorem jm.grow (h:jm p I w r s v){B:Nat}(u: ∀k,iw p v k->k<B):jm p (λk=>I k\/(B<=k/\k<w.heap.size)) w r s v:=
 ⟨h.cell,h.data.mono λ_=> .inl,h.apart,λk j hi=>by
  rcases hi with hi|⟨h1,h2⟩
  ·exact h.free k j hi
  ·have:=u k j;omega,
  λk hi=>hi.elim (h.lt k) (·.2)⟩
theorem jm.xj (h:jm p I w r s v){j:List lK}{ba:UP}{bc:Nat}(hr:ih.rel I w [.slice ba j.length bc] j):
 jm p I (w.setCell ⟨p,14,none⟩ (.slice ba j.length bc)) r { s with book:=j } { v with ba:=ba,bc:=bc }:=by
 have u:=h9 w p 14 (.slice ba j.length bc);have d:=h.zY u;exact⟨h6 h.cell,⟨d.tree,d.leaves,d.marks,(ih).keep hr (u.mono λ_ _ hi=>h.Ch hi),d.hidden,d.roots,d.past⟩,h.apart,h.free,λk hi=>jg (h.lt k hi) u.size⟩
theorem JL {w:World}{q:Nat}{old:List Value}{e:TypeId}(h:w.heap[q]? =some (.cells old.toArray e (0,0)))(o:Nat)(j:List Value)(u:o+j.length<=old.length):(w.setCells q o j).heap[q]? =some (.cells (old.take o++j++old.drop (o+j.length)).toArray e (0,0)):=by
 rw [nu q e j o w old.toArray h (by simpa using u)];exact kr w q old.toArray _ e (0,0) h
theorem jm.FZ (h:jm p I w r s v){j:xg}{ta:UP}{tc:Nat}(hr:gZ.rel I w [.slice ta j.left.length tc] j.left):
 jm p I (w.setCells p 9 [UZ j.depth,UZ j.count,.slice ta j.left.length tc]) r { s with tree:=j } { v with ta:=ta,tc:=tc }:=by
 have u:=i2 w (q:=p) (S:=λk=>k≠p) (λh=>h rfl) [UZ j.depth,UZ j.count,.slice ta j.left.length tc] 9;have d:=h.zY u;refine⟨?_,⟨gZ.keep hr (u.mono λ_ _ hi=>h.Ch hi),d.leaves,d.marks,d.book,d.hidden,d.roots,d.past⟩,h.apart,h.free,λk hi=>jg (h.lt k hi) u.size⟩;exact JL (old:=(iL r s v).toList) h.cell 9 [UZ j.depth,UZ j.count,.slice ta j.left.length tc] (by show 9+3<=18;omega)
theorem jm.xn (h:jm p I w r s v){l:List Int}(y:qw v.sb v.mb w' l)(j:Kept (λk=>k≠v.mb) w w'):jm p I w' r { s with marks:=l } v:=by
 have u: ∀k,I k->k≠v.mb:=λk hi e=>h.free v.mb (.inr (.inr (.inl rfl))) (e▸hi);obtain⟨m1,m2,z⟩:=h.data.vt
 exact⟨(j.block p (ii h.cell) h.us).trans h.cell,
  ⟨gZ.keep h.data.tree (j.mono λk _=>u k),h.data.leaves.keep (j.mono λ_ _ e j=>m1 (j▸e)),y,(ih).keep h.data.book (j.mono λk _=>u k),h.data.hidden,h.data.roots.keep (j.mono λ_ _ e j=>m2 (j▸e)),
   h.data.past.keep (j.mono λk _ e=>e.elim (u k) λe j=>z (j▸e))⟩,h.apart,h.free,λk hi=>jg (h.lt k hi) j.size⟩
theorem jm.Jt (h:jm p I w r s v){F:UO}{u:Value}{xs:List Int}(K:Own ib 0 24 F w2 u xs)(j:Kept (λk=>iT v.la≠some k) w w2)(z:u.ownBlock=iT v.la\/u.ownBlock=some w.heap.size):
 ∃a c,u= .slice a xs.length c/\(∀k,iT a=some k->iT v.la=some k\/k=w.heap.size)/\jm p I (w2.setCell ⟨p,12,none⟩ u) r { s with leaves:=xs } { v with la:=a,lc:=c }:=by
 obtain⟨a,c,rfl, -, -⟩:=iW K;rw [lM]at z;have G: ∀k,iT a=some k->iT v.la=some k\/k=w.heap.size:=λk e=>by
  rcases z with z|z
  ·exact .inl (z▸e)
  ·rw [z]at e;exact .inr (jR e).symm
 have ae:=h.ki;have h2:BS I w2 { s with leaves:=xs } { v with la:=a,lc:=c }:=by
  have ht:=K.tight;rw [lM]at ht;have ad:=h.data.vt.1;have ag:=h.data.xN.1
  exact⟨gZ.keep h.data.tree (j.mono λk _ hi e=>h.free k (.inr (.inr (.inr (.inl e)))) hi),ht,h.data.marks.keep j ag ad,(ih).keep h.data.book (j.mono λk _ hi e=>h.free k (.inr (.inr (.inr (.inl e)))) hi),h.data.hidden,
   h.data.roots.keep (j.mono λk _ e y=>h.apart k y e),h.data.past.keep (j.mono λk _ e y=>e.elim (λhi=>h.free k (.inr (.inr (.inr (.inl y)))) hi) λe=>(h.data.sz k e).1 y)⟩
 have V:w2.heap[p]? =some (.cells (iL r s v) 111 (0,0)):=(j.block p (ii h.cell) h.zX).trans h.cell;have U: ∀k,iT a=some k->iT v.ra=some k->False:=λk e y=>by
  rcases G k e with h1|rfl
  ·exact h.apart k h1 y
  ·have:=ae _ (.inr (.inr (.inr (.inr (.inl y)))));omega
 have Y: ∀k,iw p { v with la:=a,lc:=c } k-> ¬I k:=λk ab hi=>by
  rcases ab with e|e|e|e|e|e
  ·exact h.free k (.inl e) hi
  ·exact h.free k (.inr (.inl e)) hi
  ·exact h.free k (.inr (.inr (.inl e))) hi
  ·rcases G k e with h1|rfl
   ·exact h.free k (.inr (.inr (.inr (.inl h1)))) hi
   ·have:=h.lt _ hi;omega
  ·exact h.free k (.inr (.inr (.inr (.inr (.inl e))))) hi
  ·exact h.free k (.inr (.inr (.inr (.inr (.inr e))))) hi
 have af:iT a≠some p:=λe=>by
  rcases G p e with h1|h1
  ·exact h.zX h1
  ·have:=ii h.cell;omega
 refine⟨a,c,rfl,G,h6 V,?_,U,Y,λk hi=>jg (h.lt k hi) (iu j.size (h9 w2 p 12 _).size)⟩;exact h2.keep (h9 w2 p 12 _) (λ_ hi=>h.Ch hi) (nB h.FJ) (nB h.us) (λ_ e j=>af (j▸e)) (λ_ e j=>h.zW (j▸e)) (λ_ e j=>h.vY (j▸e))
theorem jm.KB (h:jm p I w r s v){F:UO}{u:Value}{xs:List Int}(K:Own ib 0 24 F w2 u xs)(j:Kept (λk=>iT v.ra≠some k) w w2)(z:u.ownBlock=iT v.ra\/u.ownBlock=some w.heap.size):
 ∃a c,u= .slice a xs.length c/\(∀k,iT a=some k->iT v.ra=some k\/k=w.heap.size)/\jm p I (w2.setCell ⟨p,16,none⟩ u) r { s with roots:=xs } { v with ra:=a,rc:=c }:=by
 obtain⟨a,c,rfl, -, -⟩:=iW K;rw [lM]at z;have G: ∀k,iT a=some k->iT v.ra=some k\/k=w.heap.size:=λk e=>by
  rcases z with z|z
  ·exact .inl (z▸e)
  ·rw [z]at e;exact .inr (jR e).symm
 have ae:=h.ki;have h2:BS I w2 { s with roots:=xs } { v with ra:=a,rc:=c }:=by
  have ht:=K.tight;rw [lM]at ht;have ad:=h.data.vt.2.1;have ag:=h.data.xN.2.1
  exact⟨gZ.keep h.data.tree (j.mono λk _ hi e=>h.free k (.inr (.inr (.inr (.inr (.inl e))))) hi),h.data.leaves.keep (j.mono λk _ e y=>h.apart k e y),h.data.marks.keep j ag ad,(ih).keep h.data.book (j.mono λk _ hi e=>h.free k (.inr (.inr (.inr (.inr (.inl e))))) hi),h.data.hidden,
   ht,h.data.past.keep (j.mono λk _ e y=>e.elim (λhi=>h.free k (.inr (.inr (.inr (.inr (.inl y))))) hi) λe=>(h.data.sz k e).2 y)⟩
 have V:w2.heap[p]? =some (.cells (iL r s v) 111 (0,0)):=(j.block p (ii h.cell) h.zW).trans h.cell;have U: ∀k,iT v.la=some k->iT a=some k->False:=λk y e=>by
  rcases G k e with h1|rfl
  ·exact h.apart k y h1
  ·have:=ae _ (.inr (.inr (.inr (.inl y))));omega
 have Y: ∀k,iw p { v with ra:=a,rc:=c } k-> ¬I k:=λk ab hi=>by
  rcases ab with e|e|e|e|e|e
  ·exact h.free k (.inl e) hi
  ·exact h.free k (.inr (.inl e)) hi
  ·exact h.free k (.inr (.inr (.inl e))) hi
  ·exact h.free k (.inr (.inr (.inr (.inl e)))) hi
  ·rcases G k e with h1|rfl
   ·exact h.free k (.inr (.inr (.inr (.inr (.inl h1))))) hi
   ·have:=h.lt _ hi;omega
  ·exact h.free k (.inr (.inr (.inr (.inr (.inr e))))) hi
 have af:iT a≠some p:=λe=>by
  rcases G p e with h1|h1
  ·exact h.zW h1
  ·have:=ii h.cell;omega
 refine⟨a,c,rfl,G,h6 V,?_,U,Y,λk hi=>jg (h.lt k hi) (iu j.size (h9 w2 p 16 _).size)⟩;exact h2.keep (h9 w2 p 16 _) (λ_ hi=>h.Ch hi) (nB h.FJ) (nB h.us) (λ_ e j=>h.zX (j▸e)) (λ_ e j=>af (j▸e)) (λ_ e j=>h.vY (j▸e))
theorem jm.MC (h:jm p I w r s v){u:Value}{xs:List sl}(ad:Own sh 0 145 (λk=>(I k\/iT v.pa=some k)\/w.heap.size<=k) w2 u xs)(j:Kept (λk=>iT v.pa≠some k) w w2)(z:u.ownBlock=iT v.pa\/u.ownBlock=some w.heap.size):
 ∃a c I',u= .slice a xs.length c/\(∀k,iT a=some k->iT v.pa=some k\/k=w.heap.size)/\(∀k,I k->I' k)/\(∀k,I' k->I k\/iT v.pa=some k\/w.heap.size<=k)/\jm p I' (w2.setCell ⟨p,17,none⟩ u) r { s with past:=xs } { v with pa:=a,pc:=c }:=by
 obtain⟨a,c,rfl, -, -⟩:=iW ad;rw [lM]at z;have U: ∀k,iT a=some k->iT v.pa=some k\/k=w.heap.size:=λk e=>by
  rcases z with z|z
  ·exact .inl (z▸e)
  ·rw [z]at e;exact .inr (jR e).symm
 have ab:=h.ki;have ae: ∀k,iT v.pa=some k-> ¬I k:=λk e=>h.free k (.inr (.inr (.inr (.inr (.inr e)))));have Y: ∀k,iw p { v with pa:=a,pc:=c } k-> ¬(I k\/(w.heap.size<=k/\k<w2.heap.size/\iT a≠some k)\/(iT v.pa=some k/\iT a≠some k)):=by
  have G: ∀k,iw p v k->(iT v.pa=some k->False)-> ¬(I k\/(w.heap.size<=k/\k<w2.heap.size/\iT a≠some k)\/(iT v.pa=some k/\iT a≠some k)):=by
   rintro k K ai (hi|⟨h1, -⟩|⟨h1, -⟩)
   ·exact h.free k K hi
   ·have:=ab k K;omega
   ·exact ai h1
  intro k K;rcases K with rfl|rfl|rfl|e|e|e
  ·exact G k (.inl rfl) h.vY
  ·exact G _ (.inr (.inl rfl)) h.data.xN.2.2
  ·exact G _ (.inr (.inr (.inl rfl))) h.data.vt.2.2
  ·exact G k (.inr (.inr (.inr (.inl e)))) λy=>(h.data.sz k y).1 e
  ·exact G k (.inr (.inr (.inr (.inr (.inl e))))) λy=>(h.data.sz k y).2 e
  ·rintro(hi|⟨-, -,h1⟩|⟨-,h1⟩)
   ·rcases U k e with h1|rfl
    ·exact ae k h1 hi
    ·have:=h.lt _ hi;omega
   ·exact h1 e
   ·exact h1 e
 have ah:iT a≠some p:=λe=>by
  rcases U p e with h1|h1
  ·exact h.vY h1
  ·have:=ii h.cell;omega
 have ag:w2.heap[p]? =some (.cells (iL r s v) 111 (0,0)):=(j.block p (ii h.cell) h.vY).trans h.cell;refine⟨a,c,λk=>I k\/(w.heap.size<=k/\k<w2.heap.size/\iT a≠some k)\/(iT v.pa=some k/\iT a≠some k),rfl,U,λk hi=> .inl hi,?_,h6 ag,?_,h.apart,Y,?_⟩
 ·rintro k (hi|⟨h1, -⟩|⟨h1, -⟩)
  ·exact .inl hi
  ·exact .inr (.inr h1)
  ·exact .inr (.inl h1)
 ·have V: ∀k,I k->iT v.pa≠some k:=λk hi e=>ae k e hi
  have h2:BS (λk=>I k\/(w.heap.size<=k/\k<w2.heap.size/\iT a≠some k)\/(iT v.pa=some k/\iT a≠some k)) w2 { s with past:=xs } { v with pa:=a,pc:=c }:=by
   refine⟨gZ.mono (gZ.keep h.data.tree (j.mono λk _=>V k)) λk _ hi=> .inl hi,h.data.leaves.keep (j.mono λk _ e y=>(h.data.sz k y).1 e),h.data.marks.keep j h.data.xN.2.2 h.data.vt.2.2,(ih).mono ((ih).keep h.data.book (j.mono λk _=>V k)) λk _ hi=> .inl hi,h.data.hidden,
    h.data.roots.keep (j.mono λk _ e y=>(h.data.sz k y).2 e),ad.mono λk hlt af=> ?_⟩
   by_cases e:iT a=some k
   ·exact .inr e
   ·rcases af with(hi|h1)|h1
    ·exact .inl (.inl hi)
    ·exact .inl (.inr (.inr ⟨h1,e⟩))
    ·exact .inl (.inr (.inl ⟨h1,hlt,e⟩))
  exact h2.keep (h9 w2 p 17 _) (λ_ hi e=>Y p (.inl rfl) (e▸hi)) (nB h.FJ) (nB h.us) (λ_ e j=>h.zX (j▸e)) (λ_ e j=>h.zW (j▸e)) (λ_ e j=>ah (j▸e))
 ·have aj:=(h9 w2 p 17 (.slice a xs.length c)).size
  have ak:=j.size;rintro k (hi|⟨-,h1, -⟩|⟨h1, -⟩)
  ·have:=h.lt k hi;omega
  ·omega
  ·have:=ab k (.inr (.inr (.inr (.inr (.inr h1)))));omega
theorem jm.Az (h:jm p I w r s v)(k:Nat)(u:k<=s.leaves.length):jm p I (w.setCell ⟨p,12,none⟩ (.slice v.la k v.lc)) r { s with leaves:=s.leaves.take k } v:=by
 have j:=h9 w p 12 (.slice v.la k v.lc);have d:=h.zY j;have e:(s.leaves.take k).length=k:=by rw [Tq];omega
 have y:=d.leaves.cut k u;refine⟨?_,⟨d.tree,by rw [e];exact y,d.marks,d.book,d.hidden,d.roots,d.past⟩,h.apart,h.free,λk hi=>jg (h.lt k hi) j.size⟩;have:=h6 (i:=12) (v:= .slice v.la k v.lc) h.cell;rw [this];show some (Obj.cells #[_,_,_,_,_,_,_,_,_,_,_,_,_,_,_,_,_,_] _ _)=some (Obj.cells #[_,_,_,_,_,_,_,_,_,_,_,_,.slice v.la (s.leaves.take k).length v.lc,_,_,_,_,_] _ _);rw [e]
theorem jm.cutRoots (h:jm p I w r s v)(k:Nat)(u:k<=s.roots.length):jm p I (w.setCell ⟨p,16,none⟩ (.slice v.ra k v.rc)) r { s with roots:=s.roots.take k } v:=by
 have j:=h9 w p 16 (.slice v.ra k v.rc);have d:=h.zY j;have e:(s.roots.take k).length=k:=by rw [Tq];omega
 have y:=d.roots.cut k u;refine⟨?_,⟨d.tree,d.leaves,d.marks,d.book,d.hidden,by rw [e];exact y,d.past⟩,h.apart,h.free,λk hi=>jg (h.lt k hi) j.size⟩;have:=h6 (i:=16) (v:= .slice v.ra k v.rc) h.cell;rw [this];show some (Obj.cells #[_,_,_,_,_,_,_,_,_,_,_,_,_,_,_,_,_,_] _ _)=some (Obj.cells #[_,_,_,_,_,_,_,_,_,_,_,_,_,_,_,_,.slice v.ra (s.roots.take k).length v.rc,_] _ _);rw [e]
theorem jm.KV (h:jm p I w r s v)(k:Nat)(u:k<=s.past.length):jm p I (w.setCell ⟨p,17,none⟩ (.slice v.pa k v.pc)) r { s with past:=s.past.take k } v:=by
 have j:=h9 w p 17 (.slice v.pa k v.pc);have d:=h.zY j;have e:(s.past.take k).length=k:=by rw [Tq];omega
 have y:=d.past.cut k u;refine⟨?_,⟨d.tree,d.leaves,d.marks,d.book,d.hidden,d.roots,by rw [e];exact y⟩,h.apart,h.free,λk hi=>jg (h.lt k hi) j.size⟩;have:=h6 (i:=17) (v:= .slice v.pa k v.pc) h.cell;rw [this];show some (Obj.cells #[_,_,_,_,_,_,_,_,_,_,_,_,_,_,_,_,_,_] _ _)=some (Obj.cells #[_,_,_,_,_,_,_,_,_,_,_,_,_,_,_,_,_,.slice v.pa (s.past.take k).length v.pc] _ _);rw [e]
def rn:sl:=⟨⟨0,0,[]⟩,0,[],[],0⟩
theorem De (S:UO)(w:World):sh.rel S w [I0,I0,S0,I0,S0,S0,U0] rn:=
 sh.mk (b:=rn) (ta:=none) (ma:=none) (ba:=none) (tc:=0) (mc:=0) (bc:=0) ⟨nw (by show(_:Int)<=0;omega) (by show(0:Int)<_;omega),nw (by show(_:Int)<=0;omega) (by show(0:Int)<_;omega),g4.nil,nw (by show(_:Int)<=0;omega) (by show(0:Int)<_;omega),g4.nil,g4.nil,ir (by show(0:Int)<=0;omega) (by show(0:Int)<_;omega)⟩
theorem jm.Hw (h:jm p I w r s v)(i:Nat)(hi:i<s.past.length): ∃g,v.pa=some ⟨g,0,none⟩/\jm p I (w.setCells g (i*7) [I0,I0,S0,I0,S0,S0,U0]) r { s with past:=s.past.set i rn } v/\g≠p:=by
 have aw:=g4.lens h.data.past.slice;obtain⟨S0,ai,ap,ay,au,ax,af⟩:=h.data.past;rcases af.2 with⟨h1,h2⟩|⟨g,ah,cur,h1,aq,ar,h2,aj,ak,al⟩
 ·omega
 ·simp only [mJ]at h1
  obtain⟨y, -,av⟩:=h1;have hpast:=h.data.past;rw [y]at hpast;obtain⟨-, -,ab,ao,S,Y,ag⟩:=hpast.row;obtain⟨U,j⟩:=ag.store i hi (De S w);rw [sh.n]at U j;have u:iT v.pa=some g:=(by rw [y];rfl);have K:g≠p:=λe=>h.vY (e▸u);have G: ∀k,I k->k≠g:=λk hi e=>h.free k (.inr (.inr (.inr (.inr (.inr (e▸u)))))) hi;have ae:=U.own (F:=λk=>I k\/iT v.pa=some k) (base:=0) (λk ad=>by
   have V:=Y k ad;rw [y];exact V) (.inr u) (iy _) ab
  refine⟨g,y,⟨?_,?_,h.apart,h.free,λk hi=>jg (h.lt k hi) j.size⟩,K⟩
  ·rw [j.block p (ii h.cell) (nB K),h.cell]
   show some (Obj.cells #[_,_,_,_,_,_,_,_,_,_,_,_,_,_,_,_,_,.slice v.pa s.past.length v.pc] _ _)=some (Obj.cells #[_,_,_,_,_,_,_,_,_,_,_,_,_,_,_,_,_,.slice v.pa (s.past.set i rn).length v.pc] _ _);rw [TG]
  ·refine⟨gZ.keep h.data.tree (j.mono λk _=>G k),h.data.leaves.keep (j.mono λk _ e z=>(h.data.sz k (z▸u)).1 e),h.data.marks.keep j (λe=>h.data.xN.2.2 (e▸u)) (λe=>h.data.vt.2.2 (e▸u)),(ih).keep h.data.book (j.mono λk _=>G k),h.data.hidden,
    h.data.roots.keep (j.mono λk _ e z=>(h.data.sz k (z▸u)).2 e),?_⟩
   rw [y];have:=ae;rw [y]at this;exact this
end
open Tryz
theorem El {α:Type}{r:kS α}{base:Nat}{e:TypeId}{F:UO}{w:World}{a:UP}{l c:Nat}{xs:List α}(h:Own r base e F w (.slice a l c) xs)(y:0<xs.length): ∃g,a=some ⟨g,0,none⟩:=by
 obtain⟨S,css,U,ad,ab,hr,j⟩:=h;rcases j.2 with⟨h1,h2⟩|⟨g,u,cur,h1,V,Y,h2,z,G,K⟩
 ·omega
 ·simp only [mJ]at h1;exact⟨g,h1.1⟩
theorem Dc {w:World}{win:Int}{roots:List Int}{g rc:Nat}(h:gZ.rel (λ_=>True) w [.slice (some ⟨g,0,none⟩) roots.length rc] roots):
 gZ.rel (λ_=>True) w [.slice (some ⟨g,roots.length-win.toNat,none⟩) (k4 win roots).length (rc-(roots.length-win.toNat))] (k4 win roots):=by
 have j:=g4.FQ h (roots.length-win.toNat) UN;have u:(ib).n=1:=rfl;rw [u,qP,nC]at j;unfold k4;rw [Ts];exact j
theorem wQ (p:Nat)(I:UO)(w:World)(r:i4)(s:j8)(v:p2)(h:jm p I w r s v)(ad:1<=r.win)(ae:r.win<=100)(U:0<s.roots.length)(h1:s.roots.length<=1000000)(g:Nat)(K:v.ra=some ⟨g,0,none⟩):
 Calls prog 47 #[.pointer (some ⟨p,0,none⟩)] w (Rt w (.slice (some ⟨g,s.roots.length-r.win.toNat,none⟩) (k4 r.win s.roots).length (v.rc-(s.roots.length-r.win.toNat)))):=by
 obtain⟨W,y⟩:=lv (show 0<=r.win by omega);have V:=(g4.lens h.data.roots.slice).2.1;have G:(k4 r.win s.roots).length=s.roots.length-(s.roots.length-r.win.toNat):=by unfold k4;rw [Ts]
 rw [G];obtain⟨n,z⟩:=iF (s.roots.length);obtain⟨ai,ap⟩:=a' h.cell;simp only [iL,z,K,y]at ai;rw [z]at V U h1⊢;have aj:1<=W/\W<=100:=UN
 rw [y,jJ];clear h K z G ad ae y;have m1:max (0:Int) (W:Int)=(W:Int):=UN
 have af:wrap64 ((n:Int)-(W:Int))=(n:Int)-(W:Int):=by unfold wrap64;omega
 by_cases ab:n<=W
 ·have j:n-W=0:=UN
  have ag:(n:Int)<=(W:Int):=UN;rw [j];clear j ab;go_wp2;go_region;go_wp2;go_ret;exact⟨rfl,(g' _ _).drew⟩
 ·obtain⟨k,j⟩:=iF (n-W)
  obtain⟨u,rfl⟩: ∃u,n=W+u:=⟨n-W,UN⟩;have Y:k=u:=UN;subst Y;have ag: ¬(((W+k:Nat):Int)<=(W:Int)):=UN;have ah:(((W+k:Nat):Int)-(W:Int))=(k:Int):=UN;have ak:((k:Nat):Int)<=((W+k:Nat):Int):=UN;have al:W+k-k=W:=UN;have ao:k<v.rc:=UN;rw [j];rw [ah]at af;clear j;go_wp2;go_region;go_wp2;go_ret;refine⟨?_,(g' _ _).drew⟩;show Ending.returned (Value.slice (some ⟨g,W+k-W,none⟩) (W+k-(W+k-W)) (v.rc-(W+k-W)))=_;rw [show W+k-W=k by omega]
theorem j4 {B:Nat}{w w1:World}(h:Below B w w1){q i:Nat}(z:B<=q)(u:Value)(j:B<=w1.heap.size):Below B w (w1.setCell ⟨q,i,none⟩ u):=
 Kept.behind h (Kept.setCell (S:=λk=>k<B) (Kept.refl _ w1) (λ_ hh=>by have y:q<B:=hh;omega) u) j λ_ h=>h
theorem x4 (D:Nat)(z:D<=12){P:Int}(j:(2:Int)^D=P):wrap64 ((2:Int)^min D 64)=P/\P<=4096:=by
 obtain⟨-,u,y⟩:=pL ⟨D,UN⟩;simp only [j]at u y;rw [sq UN,j];clear j z;unfold wrap64;omega
theorem Cr (a b:Nat)(j:(a:Int)<=4096)(u:b<=4):wrap64 ((a:Int)+b)=(a:Int)+b:=by unfold wrap64;omega
theorem HV (win:Int)(roots:List Int):(k4 win roots).length<=roots.length:=by unfold k4;rw [Ts];omega
theorem DF (p:Nat)(I:UO)(w:World)(r:i4)(s:j8)(v:p2)(h:jm p I w r s v)(hr:oo r)(N:Nat)(ok:nm r s N)(bE:N<=100000)(bG:s.past.length<=100000)(S:UO)(t:jO)(ma oa pa:UP)(mc oc pc:Nat)(ht:ks S w t ma oa pa mc oc pc):
 Calls prog 122 #[.pointer (some ⟨p,0,none⟩),.agg (jQ t ma mc oa oc pa pc)] w (Rt w (UZ (h7 r s t))):=by
 have ay:=jc w (.cells (jQ t ma mc oa oc pa pc) 87);have ad:=Hd (gY w (.cells (jQ t ma mc oa oc pa pc) 87));obtain⟨H,ah,Y,ar,aq,bw⟩:=J1 (h.c' ay) (ht.c' ay) ay hr ok (xP ht.exp)
 have aE:Hi (h7 r s t=if hF t=0 then
  if t.exp<s.past.length+1 then 14
  else if hasB (k4 r.win s.roots) t.g5=true then
   if (t.marks.any λx=>decide (x∈s.marks))=true then 12
   else if 0<t.iK/\jM s.book t.acc t.iK t.e'≠0 then jM s.book t.acc t.iK t.e'
   else if jh (s.hidden+t.iK)<jh (t.wd+t.jn)then 13
   else if (2:Int)^r.depth.toNat<s.leaves.length+t.outs.length then 16
   else 0
  else 11
 else hF t):=rfl
 have aM:0<s.roots.length/\s.roots.length<=1000000:=by have:=ok.roots;omega
 obtain⟨g,a8⟩:=El h.data.roots aM.1;clear ay h ht ok hr;go_in;go_upto_region 1 with(fail);generalize w.alloc (.cells (jQ t ma mc oa oc pa pc) 87)=W at*;obtain⟨u,ao⟩:=a' ad.o;go_wp2_with fail;refine UR (m3 S W t ma oa pa mc oc pc ah.o) λw1 hb1=> ?_;clear u ao;by_cases ae:hF t=0
 ·have aX:=Hd ae
  have aF:=Hd (aE.o.trans (g7 ae));rw [ae];clear ae aE;have u:=g0 (b' hb1 ad.o);have aP:=Hd (H.o.c' hb1);have G:=g0 aP.o.cell;simp only [iL]at G;have bB:wrap64 ((s.past.length:Int)+1)=(s.past.length:Int)+1:=(by unfold wrap64;omega);go_wp2;refine m6 ?_
  repeat (first|go_big_quiet_step (fail)|quiet_step (fail))
  refine lz ?_;intro w2 a0;clear u G;have hb2:=d' hb1 a0;clear hb1 a0 aP;by_cases a4:t.exp<s.past.length+1
  ·have j:=Hd (aF.o.trans (g7 a4))
   go_wp2;go_ret;exact⟨g2 j.o.symm,d' Y.o hb2⟩
  ·have au:=Hd (aF.o.trans (g3 a4))
   clear aF;have aA:=Hd (H.o.c' hb2);have az: ∀(d:Nat) (os:Array Obj),Calls prog 47 #[.pointer (some ⟨p,0,none⟩)] (grow (redrawn w2 d) os) λe w'=>e= .returned (.slice (some ⟨g,s.roots.length-r.win.toNat,none⟩) (k4 r.win s.roots).length (v.rc-(s.roots.length-r.win.toNat)))/\Below (grow (redrawn w2 d) os).heap.size (grow (redrawn w2 d) os) w':=λd os=>
    wQ p I _ r s v (aA.o.c' (lm w2 d os)) ar.o.w0 ar.o.w1 aM.1 aM.2 g a8
   have ak: ∀(d:Nat) (os:Array Obj),Calls prog 155 #[.slice (some ⟨g,s.roots.length-r.win.toNat,none⟩) (k4 r.win s.roots).length (v.rc-(s.roots.length-r.win.toNat)),t.g5] (grow (redrawn w2 d) os) λe w'=>e= .returned (.bool (hasB (k4 r.win s.roots) t.g5))/\Below (grow (redrawn w2 d) os).heap.size (grow (redrawn w2 d) os) w':=λd os=>
    UJ _ _ _ _ _ _ rfl (Dc (by have:=(aA.o.c' (lm w2 d os)).data.roots.slice;rw [a8]at this;exact gZ.mono this λ_ _ _=>trivial)) _
   have u:=g0 (b' hb2 ad.o);obtain⟨bv,aZ⟩:=iF (Value.slice (some ⟨g,s.roots.length-r.win.toNat,none⟩) (k4 r.win s.roots).length (v.rc-(s.roots.length-r.win.toNat)));rw [aZ]at az ak;have bi:Hi (_=_):=au;obtain⟨bj,aK⟩:=iF (hasB (k4 r.win s.roots) t.g5);simp only [aK]at ak;have aD:=Hd aK;clear aZ aK bi;go_wp2;refine m6 ?_
   repeat (first|go_big_quiet_step (first|exact ie (az _ _)|exact ie (ak _ _))|quiet_step (first|exact ie (az _ _)|exact ie (ak _ _)))
   refine lz ?_;intro bH a1;clear u az ak;have hb3:=d' hb2 a1;clear hb2 a1 aA
   cases bj with
   |false=>
    have j:Hi (h7 r s t=11):=au.o.trans (g3 (by rw [aD.o];simp));go_wp2;go_ret;exact⟨g2 j.o.symm,d' Y.o hb3⟩
   |true=>
    have aG:=Hd (au.o.trans (g7 aD.o));clear au aD;obtain⟨u,ao⟩:=a' (b' hb3 ad.o);have be:=Hd hb3;clear hb3;have bF:t.marks.length<=4:=(ke aX.o).1;have bf:=Hd (mN ah.o.marks);go_wp2;go_loopw [33] (λaN wr=> ∃k:Nat,k<=t.marks.length/\aN= UZ k/\Hi (BW W wr)/\Hi ((t.marks.take k).any (λx=>decide (x∈s.marks))=false)) (λaN _=>t.marks.length-(intOf aN).toNat)
    case atStart=>exact⟨0,iy _,rfl,be,by show _=_;simp⟩
    case round=>
     obtain⟨k,bo,rfl,U,ax⟩:=hrel;by_cases hlt:k<t.marks.length
     ·obtain⟨bz,off,bp,bm,bn⟩:=il (ah.o.c' U.o).marks k hlt
      subst bp;have aV:Hi ((t.marks.take (k+1)).any (λx=>decide (x∈s.marks))=decide (t.marks[k]∈s.marks)):=Hd (by rw [z4 hlt,List.any_append,ax.o];simp);have bh:Hi (t.marks[k]∈s.marks->(t.marks.any λx=>decide (x∈s.marks))=true):=λhh=>UA.2 ⟨t.marks[k],z3 hlt,by simpa using hh⟩;have bg:=Hd (bf.o _ (z3 hlt));generalize t.marks[k]=x at*;have HR2:=Hd (H.o.c' U.o);obtain⟨G,bt⟩:=a' HR2.o.cell;simp only [iL]at G;go_wp2_with fail;refine UR (KQ v.sb v.mb wr s.marks HR2.o.data.marks x bg.o) λbI bk=> ?_;clear G bt bn;have aQ:=Hd (d' U.o bk);by_cases al:x∈s.marks
      ·have j:Hi (h7 r s t=12):=aG.o.trans (g7 (bh.o al))
       have V:decide (x∈s.marks)=true:=iP al;rw [V];clear V al;go_wp2;go_ret;exact⟨g2 j.o.symm,d' Y.o aQ.o⟩
      ·have V:decide (x∈s.marks)=false:=iH al
       rw [V]at aV⊢;clear V al;go_wp2;go_roundw
       case rel=>
        (repeat apply Exists.intro)
        refine⟨⟨k+1,UN,by go_num,aQ,aV⟩,?_⟩;rfl
       case measure=>exact UY
     ·obtain rfl:k=t.marks.length:=UN
      rw [Sw]at ax;have av:=Hd (aG.o.trans (g3 (by rw [ax.o];simp)));clear aG ax;obtain⟨u,ao⟩:=a' (b' U.o ad.o);go_upto_if 53 with(fail);have bm:=aq.o.book;clear hlt bo;go_cut [8,9]from 10 (λbq a9 wc=>Hi (BW W wc)/\Hi (h7 r s t=if jh (s.hidden+t.iK)<jh (t.wd+t.jn)then 13 else if (2:Int)^r.depth.toNat<s.leaves.length+t.outs.length then 16 else 0))
      case first=>
       by_cases a7:0<t.iK
       ·go_wp2_with fail
        obtain⟨K,ai⟩:=ik (H.o.c' U.o) (b' U.o ad.o);have aC:Hi (h7 r s t=if jM s.book t.acc t.iK t.e'≠0 then jM s.book t.acc t.iK t.e' else if jh (s.hidden+t.iK)<jh (t.wd+t.jn)then 13 else if (2:Int)^r.depth.toNat<s.leaves.length+t.outs.length then 16 else 0):=by
         show _=_;rw [av.o];by_cases z:jM s.book t.acc t.iK t.e'≠0
         ·rw [g7 ⟨a7,z⟩,g7 z]
         ·rw [g3 (λh=>z h.2),g3 z]
        clear av;go_cut [8,9]from 10 (λbq a9 wc=>a9= UZ (jM s.book t.acc t.iK t.e')/\BW wr wc)
        case first=>
         go_region_held3 (λw'=>BW wr w'/\(∀o,w'.cell? ⟨p,o,none⟩=(iL r s v)[o]?)/\(∀o,w'.cell? ⟨w.heap.size,o,none⟩=((jQ t ma mc oa oc pa pc):Array Value)[o]?))
          (first
            |with_reducible exact kb.drew (kb.of K.o.cell ai.o (g' _ _))
            |with_reducible exact af.o
            |with_reducible exact kb.of K.o.cell ai.o (hd af.o.1 _)
            |exact kb.of K.o.cell ai.o (j4 af.o.1 (g9 _) _ af.o.1.size)
            |with_reducible exact kb.drew (kb.of K.o.cell ai.o (hd (g' _ _) _)))
          (first
            |(go_at_call 181;have aU:=Hd (‹BW wr _/\_› :kb (iL r s v) (jQ t ma mc oa oc pa pc) p w.heap.size wr _)
              refine(Ay I _ v.ba v.bc s.book (K.o.c' aU.o.1).data.book UN aq.o.up t.acc t.iK t.e' ah.o.acc ah.o.iK ah.o.e').mono ?_;rintro e br⟨bx,bA,rfl, -,hb5⟩;have af:=Hd (kb.of K.o.cell ai.o (d' aU.o.1 hb5))
              first
               |(have aL:br.heap[wr.heap.size]? =_:=b' hb5 (gY wr (.cells #[S0] 108));obtain⟨k0,k1⟩:=a' aL;have HQ:=Hd aL;clear aL)
               |skip))
         all_goals
          go_wp2;go_meet
          case rel=>first|exact⟨rfl,hd af.o.1 _⟩|exact⟨rfl,j4 af.o.1 (g9 _) _ af.o.1.size⟩
        case rest=>
         obtain⟨rfl,hbc⟩:=hcut;have ag:=Hd (d' U.o hbc);clear hbc;by_cases z:jM s.book t.acc t.iK t.e'=0
         ·have ab:=Hd (aC.o.trans (g3 (λh=>h z)))
          rw [z];clear z aC u ao K ai;go_wp2;go_meet
          case rel=>exact⟨ag,ab⟩
         ·have j:=Hd (aC.o.trans (g7 z))
          have V:(jM s.book t.acc t.iK t.e'==0)=false:=(by rw [je];exact z);have aO:(jM s.book t.acc t.iK t.e' != 0)=true:=(by rw [iB];exact z);obtain⟨y,hy⟩:=iF (jM s.book t.acc t.iK t.e');have aH:=Hd hy;rw [hy]at V aO⊢;clear hy z;go_wp2;go_ret;exact⟨g2 (by rw [j.o,aH.o]),d' Y.o ag.o⟩
       ·have ab:Hi (h7 r s t=if jh (s.hidden+t.iK)<jh (t.wd+t.jn)then 13 else if (2:Int)^r.depth.toNat<s.leaves.length+t.outs.length then 16 else 0):=av.o.trans (g3 (λh=>a7 h.1))
        go_wp2;go_meet
        case rel=>exact⟨U,ab⟩
      case rest=>
       obtain⟨ag,ab⟩:=hcut;clear u ao av U;have u:=g0 (b' ag.o ad.o);have K:=Hd (H.o.c' ag.o);have G:=g0 K.o.cell;simp only [iL]at G;obtain⟨d0,d1⟩:=(⟨ar.o.d0,ar.o.d1⟩:1<=r.depth/\r.depth<=12);obtain⟨D,aJ⟩: ∃D:Nat,r.depth=D:=lv UN;simp only [aJ,jJ]at ab G;obtain⟨aI,aj⟩: ∃aI:Int,(2:Int)^D=aI:=⟨_,rfl⟩;have aw:=aq.o.tree.c1;rw [aJ,jJ,aj,aq.o.count]at aw;rw [aj]at ab;obtain⟨bC,aY⟩:=x4 D (by clear aw aj;omega) aj;have bD:=Cr s.leaves.length t.outs.length (zQ aw aY) (ke aX.o).2.1;clear aj d0 d1 aw aY;go_wp2;refine m6 ?_
       repeat (first|go_big_quiet_step (fail)|quiet_step (fail))
       refine lz ?_;intro wa a2;clear u G;have ap:=Hd (d' ag.o a2);clear a2;by_cases a5:IntKind.u64.wrap (s.hidden+t.iK)<IntKind.u64.wrap (t.wd+t.jn)
       ·have j:=Hd (ab.o.trans (g7 a5))
        go_wp2;go_ret;exact⟨g2 j.o.symm,d' Y.o ap.o⟩
       ·have aW:=Hd (ab.o.trans (g3 a5))
        have u:=g0 (b' ap.o ad.o);have bb:=Hd (H.o.c' ap.o);have G:=g0 bb.o.cell;simp only [iL,aJ]at G;go_wp2;refine m6 ?_
        repeat (first|go_big_quiet_step (fail)|quiet_step (fail))
        refine lz ?_;intro wb a3;clear u G;have aT:=Hd (d' ap.o a3);clear a3;by_cases a6:aI<(s.leaves.length:Int)+t.outs.length
        ·have j:=Hd (aW.o.trans (g7 a6))
         go_wp2_with fail
         all_goals first|(exfalso;omega)|(go_ret;exact⟨g2 j.o.symm,d' Y.o aT.o⟩)
        ·have j:=Hd (aW.o.trans (g3 a6))
         go_wp2_with fail
         all_goals first|(exfalso;omega)|(go_ret;exact⟨g2 j.o.symm,d' Y.o aT.o⟩)
 ·have j:=Hd (aE.o.trans (g3 ae))
  have V:(hF t==0)=false:=(by rw [je];exact ae);have aO:(hF t != 0)=true:=(by rw [iB];exact ae);obtain⟨y,hy⟩:=iF (hF t);have aH:=Hd hy;rw [hy]at V aO⊢;clear hy ae;go_wp2;go_ret;exact⟨g2 (by rw [j.o,aH.o]),d' Y.o hb1⟩
abbrev lZ (s0:j8)(m:List Int)(ta ma ba:UP)(tc mc bc:Nat):Array Value:=
 #[UZ s0.tree.depth,UZ s0.tree.count,.slice ta s0.tree.left.length tc,UZ s0.leaves.length,.slice ma m.length mc,.slice ba s0.book.length bc,U2 s0.hidden]
structure vQ (p q:Nat)(I:UO)(w:World)(r:i4)(s0 s:j8)(m:List Int)(v:p2)(ta ma ba:UP)(tc mc bc:Nat):Prop where
 at':jm p I w r s v
 Gw:w.heap[q]? =some (.cells (lZ s0 m ta ma ba tc mc bc) 145 (0,0))
 tree:gZ.rel I w [.slice ta s0.tree.left.length tc] s0.tree.left
 book:ih.rel I w [.slice ba s0.book.length bc] s0.book
 hidden:iZ s0.hidden
 own:Own ib 0 24 (λk=>iT ma=some k) w (.slice ma m.length mc) m
 q1: ¬iw p v q
 q2: ¬I q
 m1: ∀k,iT ma=some k-> ¬iw p v k
 m2: ∀k,iT ma=some k-> ¬I k
structure kq (p q:Nat)(I:UO)(v:p2)(ma:UP)(w:World)(I':UO)(v':p2)(ma':UP)(w':World):Prop where
 kept:Kept (λk=> ¬iw p v k/\k≠q/\iT ma≠some k) w w'
 turn: ∀k,iw p v' k->iw p v k\/w.heap.size<=k
 im: ∀k,I k->I' k
 OO: ∀k,I' k->I k\/w.heap.size<=k
 mm: ∀k,iT ma'=some k->iT ma=some k\/w.heap.size<=k
theorem kq.refl (p q:Nat)(I:UO)(v:p2)(ma:UP)(w:World):kq p q I v ma w I v ma w:=⟨Kept.refl _ _,λ_ h=> .inl h,λ_ h=>h,λ_ h=> .inl h,λ_ h=> .inl h⟩
theorem kq.trans {p q:Nat}{I z I2:UO}{v v1 v2:p2}{ma G K:UP}{w w1 w2:World}(h:kq p q I v ma w z v1 G w1)(j:kq p q z v1 G w1 I2 v2 K w2):kq p q I v ma w I2 v2 K w2:=by
 have V:=h.kept.size;refine⟨h.kept.trans j.kept λk U y=>⟨λu=> ?_,y.2.1,λe=> ?_⟩,λk u=> ?_,λk hi=>j.im k (h.im k hi),λk hi=> ?_,λk e=> ?_⟩
 ·rcases h.turn k u with h1|h1
  ·exact y.1 h1
  ·omega
 ·rcases h.mm k e with h1|h1
  ·exact y.2.2 h1
  ·omega
 ·rcases j.turn k u with h1|h1
  ·exact h.turn k h1
  ·exact .inr UN
 ·rcases j.OO k hi with h1|h1
  ·exact h.OO k h1
  ·exact .inr UN
 ·rcases j.mm k e with h1|h1
  ·exact h.mm k h1
  ·exact .inr UN
section
variable {p q:Nat} {I I':UO} {w w' w2:World} {r:i4} {s0 s s':j8} {m:List Int} {v v':p2} {ta ma ba:UP} {tc mc bc:Nat}
theorem vQ.step (h:vQ p q I w r s0 s m v ta ma ba tc mc bc)(V:jm p I' w' r s' v')(j:Kept (λk=> ¬iw p v k) w w')(G: ∀k,iw p v' k->iw p v k\/w.heap.size<=k)(y: ∀k,I k->I' k)(z: ∀k,I' k->I k\/w.heap.size<=k):
 vQ p q I' w' r s0 s' m v' ta ma ba tc mc bc/\kq p q I v ma w I' v' ma w':=by
 have ad:=ii h.Gw;have U: ∀k,iT ma=some k->k<w.heap.size:=λk e=>by obtain⟨cur,Y⟩:=kU h.own e;exact ii Y
 have K: ∀k,I k-> ¬iw p v k:=λk hi u=>h.at'.free k u hi;refine⟨⟨V,hE j h.Gw h.q1,gZ.mono (gZ.keep h.tree (j.mono λk _=>K k)) λk _=>y k,(ih).mono ((ih).keep h.book (j.mono λk _=>K k)) λk _=>y k,h.hidden,h.own.keep (j.mono λk _ e=>h.m1 k e),?_,?_,?_,?_⟩,j.mono λ_ _ ab=>ab.1,G,y,z,λk e=> .inl e⟩
 ·intro u
  rcases G q u with h1|h1
  ·exact h.q1 h1
  ·omega
 ·intro hi
  rcases z q hi with h1|h1
  ·exact h.q2 h1
  ·omega
 ·intro k e u
  have:=U k e;rcases G k u with h1|h1
  ·exact h.m1 k e h1
  ·omega
 ·intro k e hi
  have:=U k e;rcases z k hi with h1|h1
  ·exact h.m2 k e h1
  ·omega
theorem vQ.same (h:vQ p q I w r s0 s m v ta ma ba tc mc bc)(j:BW w w'):vQ p q I w' r s0 s m v ta ma ba tc mc bc/\kq p q I v ma w I v ma w':=
 h.step (h.at'.c' j) (Kept.of_below j) (λ_ h=> .inl h) (λ_ h=>h) λ_ h=> .inl h
theorem vQ.c' (h:vQ p q I w r s0 s m v ta ma ba tc mc bc)(j:BW w w'):vQ p q I w' r s0 s m v ta ma ba tc mc bc:=(h.same j).1
theorem kq.below {ma:UP}(j:BW w w'):kq p q I v ma w I v ma w':=⟨Kept.of_below j,λ_ h=> .inl h,λ_ h=>h,λ_ h=> .inl h,λ_ h=> .inl h⟩
theorem vQ.ne (h:vQ p q I w r s0 s m v ta ma ba tc mc bc):q≠p:=λe=>h.q1 (.inl e)
theorem vQ.Ij (h:vQ p q I w r s0 s m v ta ma ba tc mc bc):iT ma≠some q:=by
 intro e;obtain⟨cur,j⟩:=kU h.own e;rw [h.Gw]at j;simp at j
theorem vQ.xn (h:vQ p q I w r s0 s m v ta ma ba tc mc bc){F:UO}{u:Value}{xs:List Int}(ab:Own ib 0 24 F w2 u xs)(U:Kept (λk=>iT ma≠some k) w w2)(j:u.ownBlock=iT ma\/u.ownBlock=some w.heap.size):
 ∃a c,u= .slice a xs.length c/\vQ p q I (w2.setCell ⟨q,4,none⟩ u) r s0 s xs v ta a ba tc c bc/\kq p q I v ma w I v a (w2.setCell ⟨q,4,none⟩ u):=by
 obtain⟨a,c,rfl, -, -⟩:=iW ab;rw [lM]at j;have K: ∀k,iT a=some k->iT ma=some k\/k=w.heap.size:=λk e=>by
  rcases j with j|j
  ·exact .inl (j▸e)
  ·rw [j]at e;exact .inr (jR e).symm
 have ah:=ii h.Gw;have V:=h9 w2 q 4 (.slice a xs.length c);have af:iT a≠some q:=λe=>by
  rcases K q e with h1|h1
  ·exact h.Ij h1
  ·omega
 have y:Kept (λk=>k≠q/\iT ma≠some k) w (w2.setCell ⟨q,4,none⟩ (.slice a xs.length c)):=(U.mono λk _ h=>h.2).trans V λk _ h=>h.1;have ht:=ab.tight;rw [lM]at ht;have Y: ∀k,iT a=some k-> ¬iw p v k/\ ¬I k:=λk e=>by
  rcases K k e with h1|rfl
  ·exact⟨h.m1 k h1,h.m2 k h1⟩
  ·refine⟨λz=> ?_,λhi=> ?_⟩
   ·have:=h.at'.ki _ z;omega
   ·have:=h.at'.lt _ hi;omega
 have G: ∀k,I k->k≠q/\iT ma≠some k:=λk hi=>⟨λe=>h.q2 (e▸hi),λe=>h.m2 k e hi⟩
 refine⟨a,c,rfl,⟨h.at'.keep y G λk z=>⟨λe=>h.q1 (e▸z),λe=>h.m1 k e z⟩,?_,gZ.keep h.tree (y.mono λk _=>G k),(ih).keep h.book (y.mono λk _=>G k),h.hidden,ht.keep (V.mono λk _ e=>λad=>af (ad▸e)),h.q1,h.q2,λk e=>(Y k e).1,λk e=>(Y k e).2⟩,
  y.mono λk _ ag=>ag.2,λ_ h=> .inl h,λ_ h=>h,λ_ h=> .inl h,λk e=> ?_⟩
 ·have ae:w2.heap[q]? =some (.cells (lZ s0 m ta ma ba tc mc bc) 145 (0,0)):=hE U h.Gw h.Ij
  exact h6 ae
 ·rcases K k e with h1|h1
  ·exact .inl h1
  ·exact .inr UN
end
end Go.Proofs.YtjdiofjjoefnhaaGreatDoor
